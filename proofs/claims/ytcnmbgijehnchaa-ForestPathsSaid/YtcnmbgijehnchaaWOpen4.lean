/- Arguments that are slices of structs of four whole numbers, opened as rows that are read (written by hand). -/
import Derived.Test.YtcnmbgijehnchaaSS
import Derived.Deep.Slices
import Derived.Deep.Fields
import Derived.ChangeSame
import Derived.Lib.SmallJoins
import Derived.Carry
set_option linter.unusedVariables false
namespace Go.Proofs.YtcnmbgijehnchaaW.MyOpen
open Go.RowKit Go.ChangeShapes Go.WideShapes Go.Deep Go.Joins Go.Proofs.YtcnmbgijehnchaaW.PrintWords Go.Proofs.YtcnmbgijehnchaaW.Splay
section
variable {H : Type} {enc : TypeId × Value → H} {P : Program} {W : World} {base : Nat} {spare : Nat → Bool} {held : Bool}
theorem open_row4 {t e : TypeId} {f0 f1 f2 f3 : Field} {fuel : Nat} {cs : List Value} {x : DataW H × List MemPlace} (ht : P.underlying t = some (.slice e)) (he : P.underlying e = some (.struct #[f0, f1, f2, f3]))
    (hone : oneCellFields P #[f0, f1, f2, f3] = true) (hC : P.cellsOf e = 4) (u0 : P.underlying f0.type = some (.int .i64)) (u1 : P.underlying f1.type = some (.int .i64)) (u2 : P.underlying f2.type = some (.int .i64)) (u3 : P.underlying f3.type = some (.int .i64))
    (h : DataW.trod enc P W base spare held fuel t cs = some x) :
    ∃ (A : Option Addr) (c : Nat) (l : List Ac), cs = [.slice A l.length c] ∧ l.length ≤ c ∧ l.length ≤ maxLen ∧ RdA W A l := by
  rcases open_slice ht h with ⟨hcs, _⟩ | ⟨a, len, cap, m, n, D, Pl, hcs, _, hl, hm, hmm, _, hi⟩
  · exact ⟨none, 0, [], hcs, Nat.le_refl _, Nat.zero_le _, ⟨fun c hc => (by cases hc), .inl rfl⟩⟩
  · have key : ∀ i, ∃ y : Ac, i < len → y.wf ∧ W.cell? (a.add (i * 4 + 0)) = some (.int .i64 y.op) ∧ W.cell? (a.add (i * 4 + 1)) = some (.int .i64 y.x) ∧ W.cell? (a.add (i * 4 + 2)) = some (.int .i64 y.y) ∧ W.cell? (a.add (i * 4 + 3)) = some (.int .i64 y.d) := by
      intro i
      by_cases hil : i < len
      · obtain ⟨cs', hc, ht'⟩ := hi i (by rw [hmm]; split <;> omega)
        rw [hC] at hc
        obtain ⟨ys, n', _, _, _, _, hf⟩ := DataW.trod_struct he ht'
        obtain ⟨_, hcl, hat⟩ := World.cells?_some hc
        match cs', hcl with
        | [c0, c1, c2, c3], _ =>
          obtain ⟨o0, k0⟩ := hone_of hone 0 f0 rfl
          obtain ⟨o1, k1⟩ := hone_of hone 1 f1 rfl
          obtain ⟨o2, k2⟩ := hone_of hone 2 f2 rfl
          obtain ⟨o3, k3⟩ := hone_of hone 3 f3 rfl
          have g0 := hf 0 f0 rfl
          have g1 := hf 1 f1 rfl
          have g2 := hf 2 f2 rfl
          have g3 := hf 3 f3 rfl
          rw [o0, k0] at g0
          rw [o1, k1] at g1
          rw [o2, k2] at g2
          rw [o3, k3] at g3
          simp only [List.drop_zero, List.drop_succ_cons, List.take_succ_cons, List.take_zero] at g0 g1 g2 g3
          have some0 : ∃ z, ys[0]? = some z := by
            cases hz : ys[0]? with
            | some z => exact ⟨z, rfl⟩
            | none => simp_all
          have some1 : ∃ z, ys[1]? = some z := by
            cases hz : ys[1]? with
            | some z => exact ⟨z, rfl⟩
            | none => simp_all
          have some2 : ∃ z, ys[2]? = some z := by
            cases hz : ys[2]? with
            | some z => exact ⟨z, rfl⟩
            | none => simp_all
          have some3 : ∃ z, ys[3]? = some z := by
            cases hz : ys[3]? with
            | some z => exact ⟨z, rfl⟩
            | none => simp_all
          obtain ⟨z0, e0⟩ := some0
          obtain ⟨z1, e1⟩ := some1
          obtain ⟨z2, e2⟩ := some2
          obtain ⟨z3, e3⟩ := some3
          obtain ⟨x0, q0, _, w0⟩ := DataW.trod_int u0 (g0.trans e0)
          obtain ⟨x1, q1, _, w1⟩ := DataW.trod_int u1 (g1.trans e1)
          obtain ⟨x2, q2, _, w2⟩ := DataW.trod_int u2 (g2.trans e2)
          obtain ⟨x3, q3, _, w3⟩ := DataW.trod_int u3 (g3.trans e3)
          simp only [List.cons.injEq, and_true] at q0 q1 q2 q3
          subst q0 q1 q2 q3
          refine ⟨⟨x0, x1, x2, x3⟩, fun _ => ⟨⟨w0, w1, w2, w3⟩, ?_, ?_, ?_, ?_⟩⟩
          · have := hat 0 (by omega); rw [Go.Deep.add_add] at this; exact this
          · have := hat 1 (by omega); rw [Go.Deep.add_add] at this; exact this
          · have := hat 2 (by omega); rw [Go.Deep.add_add] at this; exact this
          · have := hat 3 (by omega); rw [Go.Deep.add_add] at this; exact this
      · exact ⟨⟨0, 0, 0, 0⟩, fun h => absurd h hil⟩
    obtain ⟨g, hg⟩ := Classical.axiomOfChoice key
    have hlen : ((List.range len).map g).length = len := by simp
    refine ⟨some a, cap, (List.range len).map g, by rw [hlen]; exact hcs, by rw [hlen]; exact hl, by rw [hlen]; exact Nat.le_trans hl hm, ⟨fun c hc => ?_, .inr ⟨a, rfl, fun j c hj => ?_⟩⟩⟩
    · obtain ⟨i, hi', rfl⟩ := List.mem_map.1 hc
      exact (hg i (List.mem_range.1 hi')).1
    · simp only [List.getElem?_map] at hj
      by_cases hjl : j < len
      · rw [List.getElem?_range hjl] at hj
        simp only [Option.map_some, Option.some.injEq] at hj
        subst hj
        obtain ⟨_, c0, c1, c2, c3⟩ := hg j hjl
        exact ⟨c0, by rw [← add_field _ _ 1 (by omega)]; exact c1, by rw [← add_field _ _ 2 (by omega)]; exact c2, by rw [← add_field _ _ 3 (by omega)]; exact c3⟩
      · have : (List.range len)[j]? = none := by simp; omega
        rw [this] at hj
        simp at hj
end
end Go.Proofs.YtcnmbgijehnchaaW.MyOpen
