/- Arguments that are slices of structs of three whole numbers, and structs by value, opened as rows that are read (written by hand). -/
import Derived.Test.YtcnmbgijehnchaaWWords
import Derived.Deep.Slices
import Derived.Deep.Fields
import Derived.ChangeSame
import Derived.Lib.SmallJoins
import Derived.Carry
namespace Go.Proofs.YtcnmbgijehnchaaW.MyOpen
theorem setCell_drewN_out (w : World) (n : Nat) (a : Addr) (v : Value) : (w.drewN n).setCell a v = (w.setCell a v).drewN n := rfl
open Go.RowKit Go.ChangeShapes Go.WideShapes Go.Deep Go.Joins Go.Proofs.YtcnmbgijehnchaaW.PrintWords
section
variable {H : Type} {enc : TypeId × Value → H} {P : Program} {W : World} {base : Nat} {spare : Nat → Bool} {held : Bool}
/-- Three whole numbers. -/
def Wf3 (x : Int × Int × Int) : Prop := (Lit.int .i64 x.1).wf = true ∧ (Lit.int .i64 x.2.1).wf = true ∧ (Lit.int .i64 x.2.2).wf = true
theorem open_row3 {t e : TypeId} {f0 f1 f2 : Field} {fuel : Nat} {cs : List Value} {x : DataW H × List MemPlace} (ht : P.underlying t = some (.slice e)) (he : P.underlying e = some (.struct #[f0, f1, f2]))
    (hone : oneCellFields P #[f0, f1, f2] = true) (hC : P.cellsOf e = 3) (u0 : P.underlying f0.type = some (.int .i64)) (u1 : P.underlying f1.type = some (.int .i64)) (u2 : P.underlying f2.type = some (.int .i64))
    {α : Type} (K : Kd α) (mk : Int → Int → Int → α) (hs : K.sz = 3) (hk : ∀ a b c, K.K W (mk a b c) [.int .i64 a, .int .i64 b, .int .i64 c])
    (h : DataW.trod enc P W base spare held fuel t cs = some x) :
    ∃ (A : Option Addr) (c : Nat) (l : List α), cs = [.slice A l.length c] ∧ l.length ≤ c ∧ l.length ≤ maxLen ∧ (∀ y ∈ l, ∃ z : Int × Int × Int, Wf3 z ∧ y = mk z.1 z.2.1 z.2.2) ∧ K.C W A l.length l := by
  rcases open_slice ht h with ⟨hcs, _⟩ | ⟨a, len, cap, m, n, D, Pl, hcs, _, hl, hm, hmm, _, hi⟩
  · refine ⟨none, 0, [], hcs, Nat.le_refl _, Nat.zero_le _, ?_, ⟨rfl, ?_, ?_⟩⟩
    · intro y hy
      cases hy
    · simp
    · intro h0
      exact absurd h0 (by simp)
  · have key : ∀ i, ∃ y : Int × Int × Int, i < len → Wf3 y ∧ W.cell? (a.add (i * 3 + 0)) = some (.int .i64 y.1) ∧ W.cell? (a.add (i * 3 + 1)) = some (.int .i64 y.2.1) ∧ W.cell? (a.add (i * 3 + 2)) = some (.int .i64 y.2.2) := by
      intro i
      by_cases hil : i < len
      · obtain ⟨cs', hc, ht'⟩ := hi i (by rw [hmm]; split <;> omega)
        rw [hC] at hc
        obtain ⟨ys, n', _, _, _, _, hf⟩ := DataW.trod_struct he ht'
        obtain ⟨_, hcl, hat⟩ := World.cells?_some hc
        match cs', hcl with
        | [c0, c1, c2], _ =>
          obtain ⟨o0, k0⟩ := hone_of hone 0 f0 rfl
          obtain ⟨o1, k1⟩ := hone_of hone 1 f1 rfl
          obtain ⟨o2, k2⟩ := hone_of hone 2 f2 rfl
          have g0 := hf 0 f0 rfl
          have g1 := hf 1 f1 rfl
          have g2 := hf 2 f2 rfl
          rw [o0, k0] at g0
          rw [o1, k1] at g1
          rw [o2, k2] at g2
          simp only [List.drop_zero, List.drop_succ_cons, List.take_succ_cons, List.take_zero] at g0 g1 g2
          have some0 : ∃ z, ys[0]? = some z := by
            cases hz : ys[0]? with
            | some z => exact ⟨z, rfl⟩
            | none => simp_all
          have some1 : ∃ z, ys[1]? = some z := by
            cases hz : ys[1]? with
            | some z => exact ⟨z, rfl⟩
            | none => simp_all
          have some2 : ∃ z, ys[2]? = some z := by
            cases hz : ys[2]? with
            | some z => exact ⟨z, rfl⟩
            | none => simp_all
          obtain ⟨z0, e0⟩ := some0
          obtain ⟨z1, e1⟩ := some1
          obtain ⟨z2, e2⟩ := some2
          obtain ⟨x0, q0, _, w0⟩ := DataW.trod_int u0 (g0.trans e0)
          obtain ⟨x1, q1, _, w1⟩ := DataW.trod_int u1 (g1.trans e1)
          obtain ⟨x2, q2, _, w2⟩ := DataW.trod_int u2 (g2.trans e2)
          simp only [List.cons.injEq, and_true] at q0 q1 q2
          subst q0 q1 q2
          refine ⟨(x0, x1, x2), fun _ => ⟨⟨w0, w1, w2⟩, ?_, ?_, ?_⟩⟩
          · have := hat 0 (by omega); rw [Go.Deep.add_add] at this; exact this
          · have := hat 1 (by omega); rw [Go.Deep.add_add] at this; exact this
          · have := hat 2 (by omega); rw [Go.Deep.add_add] at this; exact this
      · exact ⟨(0, 0, 0), fun h => absurd h hil⟩
    obtain ⟨g, hg⟩ := Classical.axiomOfChoice key
    have hlen : ((List.range len).map fun i => mk (g i).1 (g i).2.1 (g i).2.2).length = len := by simp
    refine ⟨some a, cap, (List.range len).map fun i => mk (g i).1 (g i).2.1 (g i).2.2, by rw [hlen]; exact hcs, by rw [hlen]; exact hl, by rw [hlen]; exact Nat.le_trans hl hm, ?_, ⟨rfl, ?_, fun _ => ⟨a, rfl, ?_⟩⟩⟩
    · intro y hy
      obtain ⟨i, hi', rfl⟩ := List.mem_map.1 hy
      exact ⟨g i, (hg i (List.mem_range.1 hi')).1, rfl⟩
    · simp only [List.length_map, List.length_range]
      have : len ≤ maxLen := Nat.le_trans hl hm
      unfold maxLen at this; exact this
    · intro j p hj
      rw [hs]
      simp only [List.getElem?_map] at hj
      by_cases hjl : j < len
      · rw [List.getElem?_range hjl] at hj
        simp only [Option.map_some, Option.some.injEq] at hj
        obtain ⟨_, c0, c1, c2⟩ := hg j hjl
        refine ⟨[.int .i64 (g j).1, .int .i64 (g j).2.1, .int .i64 (g j).2.2], rfl, by rw [← hj]; exact hk _ _ _, ?_⟩
        intro i u hu
        match i, hu with
        | 0, hu => simp at hu; subst hu; exact c0
        | 1, hu => simp at hu; subst hu; exact c1
        | 2, hu => simp at hu; subst hu; exact c2
      · have : (List.range len)[j]? = none := by simp; omega
        rw [this] at hj
        simp at hj
end
end Go.Proofs.YtcnmbgijehnchaaW.MyOpen
