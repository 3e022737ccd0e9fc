/- splay: New (contract by hand). -/
import Derived.Test.YtcnmbgijehnchaaS17
set_option linter.unusedVariables false
set_option linter.unusedSimpArgs false
namespace Go.Proofs.YtcnmbgijehnchaaW.Splay
open Go.RowKit Go.Shelf Go.Proofs.YtcnmbgijehnchaaW.PrintWords Go.Proofs.YtcnmbgijehnchaaW.PrintLast Go.Proofs.YtcnmbgijehnchaaW.PrintMore Go.Proofs.YtcnmbgijehnchaaW.Mine
attribute [local go_sem] max2_int min2_int max_two min_two max_three min_three max_four min_four Oper.semAt_some
theorem info_node : (Try.prog.info? 60).map (fun i => (i.zero, i.size, i.bytes)) = some (some (.agg #[.int .i64 0, .int .i64 0, .int .i64 0, .int .i64 0, .int .i64 0, .int .i64 0, .int .i64 0, .int .i64 0, .bool false]), 9, 72) := by kernel_rfl
def ndc (v : Int) : List Value := [.int .i64 (-1), .int .i64 (-1), .int .i64 (-1), .int .i64 1, .int .i64 v, .int .i64 v, .int .i64 v, .int .i64 0, .bool false]
def ndcs (vs : List Int) : List Value := vs.flatMap ndc
theorem ndcs_snoc (vs : List Int) (v : Int) : ndcs (vs ++ [v]) = ndcs vs ++ ndc v := by simp [ndcs]
theorem ndcs_length (vs : List Int) : (ndcs vs).length = vs.length * 9 := by
  induction vs with
  | nil => rfl
  | cons v vs ih =>
    have e : ndcs (v :: vs) = ndc v ++ ndcs vs := rfl
    rw [e, List.length_append, ih, List.length_cons]
    show 9 + _ = _
    omega
theorem ndcs_at : ∀ (vs : List Int) (i j : Nat), i < vs.length → j < 9 → (ndcs vs)[i * 9 + j]? = (ndc (vs.getD i 0))[j]?
  | [], i, j, h, _ => by simp at h
  | v :: vs, 0, j, _, hj => by
    have e : ndcs (v :: vs) = ndc v ++ ndcs vs := rfl
    rw [e, List.getElem?_append_left (by show _ < 9; omega)]
    simp
  | v :: vs, i + 1, j, h, hj => by
    have e : ndcs (v :: vs) = ndc v ++ ndcs vs := rfl
    rw [e, List.getElem?_append_right (by show 9 ≤ _; omega)]
    have h2 := ndcs_at vs i j (by simpa using h) hj
    show (ndcs vs)[(i + 1) * 9 + j - 9]? = _
    rw [show (i + 1) * 9 + j - 9 = i * 9 + j by omega, h2]
    simp
theorem getD_at {vs : List Int} {j : Nat} (h : j < vs.length) : vs.getD j 0 = vs[j] := by simp [h]
/-- Values that are read, one cell each. -/
def Rds (W : World) (A : Option Addr) (vs : List Int) : Prop := vs = [] ∨ ∃ a, A = some a ∧ ∀ j (h : j < vs.length), W.cell? (a.add j) = some (.int .i64 vs[j]) ∧ a.block < W.heap.size
set_option maxHeartbeats 8000000 in
set_option maxRecDepth 100000 in
theorem new_calls {w0 w : World} {A : Option Addr} {vs : List Int} {c : Nat} (hb : Below w0.heap.size w0 w) (hr : Rds w A vs) (h1 : vs.length ≤ 3000) :
    Calls Try.prog 14 #[.slice A vs.length c] w fun e w' => Below w.heap.size w w' ∧ ((∃ j, j < vs.length ∧ (vs.getD j 0 < -4611686018427387904 ∨ 4611686018427387904 < vs.getD j 0) ∧ e = .returned (.tuple #[.pointer none, .int .i64 3])) ∨
      ((∀ v ∈ vs, -4611686018427387904 ≤ v ∧ v ≤ 4611686018427387904) ∧ e = .returned (.tuple #[.pointer (some ⟨w.heap.size, 0, none⟩), .int .i64 0]) ∧ ∃ v, w'.heap[w.heap.size]? = some (.cells #[v, .int .i64 0] 57 (0, 0)) ∧ w'.ownsRow (w.heap.size + 1) 60 9 v vs.length (ndcs vs))) := by
  have HB := Aside0.mk hb
  have HR := Aside0.mk hr
  clear hb hr
  have hu60 := Try.underlying60
  have hu58 := Try.underlying58
  have hu57 := Try.underlying57
  go_enter Try.func14, Try.ntmps14
  have hn0 : ¬ (3000 : Int) < (vs.length : Int) := by omega
  have hn1 : (vs.length : Int) ≤ 3000 := by omega
  go_wp2
  have hHP : (w.alloc (.cells #[.slice none 0 0, .int .i64 0] 57)).heap[w.heap.size]? = some (.cells #[.slice none 0 0, .int .i64 0] 57 (0, 0)) := World.alloc_heap_new w _
  have hHB : Below w.heap.size w (w.alloc (.cells #[.slice none 0 0, .int .i64 0] 57)) := below_alloc (Below.refl _ _) _
  have hHZ : w.heap.size + 1 ≤ (w.alloc (.cells #[.slice none 0 0, .int .i64 0] 57)).heap.size := by simp
  go_loopg [14] (vs.length + 1) (fun kq v14 wr => ∃ (j : Nat) (v : Value), v14 = .int .i64 (j : Int) ∧ Aside0 (j + kq = vs.length + 1 ∧ 0 < kq) ∧ Aside0 (wr.heap[w.heap.size]? = some (.cells #[v, .int .i64 0] 57 (0, 0))) ∧ Aside0 (wr.ownsRow (w.heap.size + 1) 60 9 v j (ndcs (vs.take j))) ∧ Aside0 (Below w.heap.size w wr ∧ w.heap.size + 1 ≤ wr.heap.size) ∧ Aside0 (∀ u ∈ vs.take j, -4611686018427387904 ≤ u ∧ u ≤ 4611686018427387904))
  case atStart => exact ⟨0, _, rfl, ⟨by omega⟩, ⟨hHP⟩, ⟨⟨rfl, .inl ⟨rfl, rfl⟩⟩⟩, ⟨hHB, hHZ⟩, ⟨by simp⟩⟩
  case round =>
    obtain ⟨j, v, rfl, HK, HX, HO, HW, HV⟩ := hrel
    by_cases c1 : j < vs.length
    · have hlt : (j : Int) < (vs.length : Int) := by omega
      have j0 : (0 : Int) ≤ (j : Int) := Int.natCast_nonneg j
      obtain ⟨a, rfl, ha⟩ : ∃ a, A = some a ∧ ∀ j (h : j < vs.length), w.cell? (a.add j) = some (.int .i64 vs[j]) ∧ a.block < w.heap.size := by
        rcases HR.out with e | e
        · subst e; simp at c1
        · exact e
      obtain ⟨u, hu⟩ : ∃ u, vs[j] = u := ⟨_, rfl⟩
      have hcu : wr.cell? (a.add j) = some (.int .i64 u) := by
        rw [← hu]
        exact (HW.out.1.cell (p := a.add j) (by unfold Addr.add; split <;> exact (ha j c1).2)).trans (ha j c1).1
      have HU := Aside0.mk hu
      clear hu ha hHP hHB hHZ
      have hxs := blk_cell HX.out 0
      obtain ⟨av, cv, ev⟩ := own_slice HO.out
      subst ev
      by_cases c2 : u < -4611686018427387904
      · go_wp2
        refine bodyPost_ret (results_tmp2 rfl _ _ _) rfl ?_
        exact ⟨HW.out.1, .inl ⟨j, c1, Or.inl (by simpa [c1, HU.out] using c2), rfl⟩⟩
      · by_cases c3 : 4611686018427387904 < u
        · have c2' : -4611686018427387904 ≤ u := by omega
          go_wp2
          refine bodyPost_ret (results_tmp2 rfl _ _ _) rfl ?_
          exact ⟨HW.out.1, .inl ⟨j, c1, Or.inr (by simpa [c1, HU.out] using c3), rfl⟩⟩
        · have c2' : -4611686018427387904 ≤ u := by omega
          have c3' : u ≤ 4611686018427387904 := by omega
          go_wp2_with ((with_reducible refine gate_builtin (b := .append) (xs := #[.tmp 28, .tmp 34]) rfl ?_); at_builtin; refine print_append_cells (w0 := wr) (w.heap.size + 1) rfl (.tmp 28) (.tmp 34) 55 60 (.agg #[.int .i64 0, .int .i64 0, .int .i64 0, .int .i64 0, .int .i64 0, .int .i64 0, .int .i64 0, .int .i64 0, .bool false]) 9 72 rfl Try.underlying55 info_node rfl (by decide) (by decide) (.slice av j cv) j (ndcs (vs.take j)) (ndc u) rfl rfl rfl ?aH ?aO (Below.refl _ _) ?aS ?aL ?_; (case aH => intro z hz; simp [ndc] at hz; rcases hz with rfl | rfl | rfl | rfl | rfl <;> rfl); (case aO => exact HO.out); (case aS => exact HW.out.2); (case aL => omega); intro v1 w5 ho hb5 hg hat; obtain ⟨a5, c5, e5⟩ := own_slice ho; subst e5; have HO5 := Aside0.mk ho; have HX5 : Aside0 (w5.heap[w.heap.size]? = some (.cells #[.slice av j cv, .int .i64 0] 57 (0, 0))) := ⟨(hg.block _ (by have h_ := HW.out.2; omega) (fun e => by have h_ := (own_typed HO.out _ e.symm).1; omega)).trans HX.out⟩; have HG5 : Aside0 (Below w.heap.size w w5) := ⟨HW.out.1.grown hg HW.out.1.size (fun r e => by have h_ := (own_typed HO.out r e).1; omega)⟩; have hx5 := blk_cell HX5.out 0; have hf5 := blk_frozen HX5.out 0; have HZ5 : Aside0 (wr.heap.size ≤ w5.heap.size) := ⟨hg.size⟩; clear ho hb5 hg hat)
          go_roundg (vs.length - j)
          case measure => have h_ := HK.out; omega
          case rel =>
            have e_ : vs.take (j + 1) = vs.take j ++ [u] := by rw [List.take_add_one, List.getElem?_eq_getElem c1, HU.out]; rfl
            have hw5 := (Array.getElem?_eq_some_iff.1 HX5.out).1
            refine ⟨j + 1, _, ?_, ⟨by omega⟩, ⟨blk_put HX5.out 0 _ rfl⟩, ⟨?_⟩, ⟨?_, ?_⟩, ⟨?_⟩⟩
            · have h_ : wrap64 ((j : Int) + 1) = (j : Int) + 1 := by unfold wrap64; omega
              first | rw [h_] | skip
              rfl
            · rw [e_, ndcs_snoc]
              exact own_kept HO5.out (fun g hg => Below.heap_setCell w5 ⟨w.heap.size, 0, none⟩ _ g (fun (e : g = w.heap.size) => by have h_ := (own_typed HO5.out g hg).1; omega))
            · exact HG5.out.trans ((Below.refl _ w5).grown (grownBy_setCell' w5 w.heap.size _) HG5.out.size (fun r e => by cases e; omega))
            · have h1_ := HZ5.out
              have h2_ := HW.out.2
              simp
              omega
            · rw [e_]
              intro z hz
              rcases List.mem_append.1 hz with hz | hz
              · exact HV.out z hz
              · rw [List.mem_singleton.1 hz]
                exact ⟨c2', c3'⟩
    · have e : j = vs.length := by have h_ := HK.out; omega
      have hge : (vs.length : Int) ≤ (j : Int) := by omega
      go_wp2
      refine bodyPost_ret (results_tmp2 rfl _ _ _) rfl ?_
      subst e
      refine ⟨HW.out.1, .inr ⟨?_, rfl, v, HX.out, ?_⟩⟩
      · have h_ := HV.out
        rwa [List.take_length] at h_
      · have h_ := HO.out
        rwa [List.take_length] at h_
end Go.Proofs.YtcnmbgijehnchaaW.Splay
