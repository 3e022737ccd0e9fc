/- For the law DecompOrder, for every input: printed by a program (wip/myprint), contracts by hand where it says MANUAL. -/
-- slim5
-- slim
import Derived.Test.YtnjdjnoncoeffaaPDecompOrderx0
import Derived.Test.YtnjdjnoncoeffaaPDecompOrderx18
import Derived.Test.YtnjdjnoncoeffaaPDecompOrderx19
import Derived.Test.YtnjdjnoncoeffaaPDecompOrderx20
import Derived.Test.YtnjdjnoncoeffaaPDecompOrderx21
import Derived.Test.YtnjdjnoncoeffaaPDecompOrderx23
import Derived.Test.YtnjdjnoncoeffaaPDecompOrderx25
import Derived.Test.YtnjdjnoncoeffaaPDecompOrderx26
namespace Go.Proofs.Ytnjdjnoncoeffaa.PDecompOrder
open Go.RowKit Go.Proofs.YtnjdjnoncoeffaaW.PrintWords Go.Proofs.YtnjdjnoncoeffaaW.PrintLast Go.Proofs.YtnjdjnoncoeffaaW.PrintMore
attribute [local go_sem] max2_int min2_int max_two min_two max_three min_three max_four min_four
set_option linter.unusedVariables false
set_option linter.unusedSimpArgs false
/-! ### racewaylaw15_DecompOrder: function 7 -/
mutual
def racewaylaw15_DecompOrder.j0 : Nat → Int → List Int → List (S36) → List Int → Bool → Int → Int → Int → List (S30) → Option (Bool)
 | 0, _, _, _, _, _, _, _, _, _ => none
 | k + 1, x4, x13, x14, x16, x66, x227000, x227001, x227002, x227003 => if x66 = true then (some false) else (racewaylaw15_DecompOrder.l0 k x4 x13 x14 x16 0 x227000 x227001 x227002 x227003)
def racewaylaw15_DecompOrder.l0 : Nat → Int → List Int → List (S36) → List Int → Int → Int → Int → Int → List (S30) → Option (Bool)
 | 0, _, _, _, _, _, _, _, _, _ => none
 | k + 1, x4, x13, x14, x16, x18, x227000, x227001, x227002, x227003 => if x18 < (x16.length : Int) then (if 0 ≤ x18 then (if (rd x16 x18) = 0 then (racewaylaw15_DecompOrder.l0 k x4 x13 x14 x16 (wrap64 (x18 + 1)) x227000 x227001 x227002 x227003) else (some false)) else (none)) else (if (x14.length : Int) = 0 then (some true) else ((racewaylaw15_pick.f x4 (x14.length : Int)).bind fun t239 => ((some (([] : List (S36)) : List (S36))).bind fun y240 => (if 0 ≤ t239 then (if t239 ≤ (x14.length : Int) then ((some (x14.drop (t239 : Int).toNat : List (S36))).bind fun y243 => (if y240.length + y243.length < 3518437208883 then ((some (y240 ++ y243 : List (S36))).bind fun y248 => ((some (x14.take (t239 : Int).toNat : List (S36))).bind fun y251 => (if y248.length + y251.length < 3518437208883 then ((decomp_Sum.f k x227000 x227001 x227002 x227003 (y248 ++ y251)).bind fun bt259 => (if t239 < (x14.length : Int) then (racewaylaw15_DecompOrder.l1 k x13 bt259.1 bt259.2 1099511627776 0 x227000 x227001 x227002 x227003 ((rd_T36 x14 t239).f0) ((rd_T36 x14 t239).f1) ((rd_T36 x14 t239).f2)) else (none))) else (none)))) else (none))) else (none)) else (none)))))
def racewaylaw15_DecompOrder.l1 : Nat → List Int → List Int → Int → Int → Int → Int → Int → Int → List (S30) → Int → List Int → Int → Option (Bool)
 | 0, _, _, _, _, _, _, _, _, _, _, _, _ => none
 | k + 1, x13, x21, x22, x24, x25, x227000, x227001, x227002, x227003, x265000, x265001, x265002 => if x25 < (x265001.length : Int) then (if 0 ≤ x25 then (if 0 ≤ (rd x265001 x25) then (if (rd x265001 x25) < (x227003.length : Int) then (racewaylaw15_DecompOrder.l1 k x13 x21 x22 (mn x24 ((rd_T30 x227003 (rd x265001 x25)).f2)) (wrap64 (x25 + 1)) x227000 x227001 x227002 x227003 x265000 x265001 x265002) else (none)) else (none)) else (none)) else ((decomp_Sum.f k x227000 x227001 x227002 x227003 (([(⟨x265000, x265001, x24⟩ : S36)] : List (S36)))).bind fun bt270 => ((decomp_Sum.f k x227000 x227001 x227002 x227003 (([(⟨x265000, x265001, wrap64 (x24 + 1)⟩ : S36)] : List (S36)))).bind fun bt277 => ((decomp_Sum.f k x227000 x227001 x227002 x227003 (([(⟨x265000, x265001, 0⟩ : S36)] : List (S36)))).bind fun bt284 => (if x22 = 0 then ((racewayref5_Same.f k x21 x13).bind fun t288 => (if t288 = true then (if bt270.2 = 0 then (if bt277.2 = 3 then (some (bt284.2 == 1)) else (some false)) else (some false)) else (some false))) else (some false)))))
end
def racewaylaw15_DecompOrder.f (k : Nat) (a0 : Int) (a1 : Int) (l2 : List (S61)) (l3 : List Int) (a4 : Int) : Option (Bool) := (racewaylaw15_shown.f k).bind fun t219 => (if t219 = true then ((racewaylaw15_made.f k a0 a1 l2).bind fun bt220 => ((racewaylaw15_routed.f k bt220.1 bt220.2.1 bt220.2.2.1 bt220.2.2.2 l3).bind fun t227 => ((decomp_Split.f k bt220.1 bt220.2.1 bt220.2.2.1 bt220.2.2.2 t227).bind fun bt230 => ((decomp_Sum.f k bt220.1 bt220.2.1 bt220.2.2.1 bt220.2.2.2 ([] : List (S36))).bind fun bt234 => (if bt230.2 = 0 then (if bt234.2 = 0 then (racewaylaw15_DecompOrder.j0 k a4 t227 bt230.1 bt234.1 ((bt234.1.length : Int) != (bt220.2.2.2.length : Int)) bt220.1 bt220.2.1 bt220.2.2.1 bt220.2.2.2) else (racewaylaw15_DecompOrder.j0 k a4 t227 bt230.1 bt234.1 true bt220.1 bt220.2.1 bt220.2.2.1 bt220.2.2.2)) else (racewaylaw15_DecompOrder.j0 k a4 t227 bt230.1 bt234.1 true bt220.1 bt220.2.1 bt220.2.2.1 bt220.2.2.2)))))) else (some false))
theorem racewaylaw15_DecompOrder.mono_l : ∀ k, (∀ y0 y1 y2 y3 y4 y5 y6 y7 y8, LeO (racewaylaw15_DecompOrder.j0 k y0 y1 y2 y3 y4 y5 y6 y7 y8) (racewaylaw15_DecompOrder.j0 (k + 1) y0 y1 y2 y3 y4 y5 y6 y7 y8)) ∧ (∀ y0 y1 y2 y3 y4 y5 y6 y7 y8, LeO (racewaylaw15_DecompOrder.l0 k y0 y1 y2 y3 y4 y5 y6 y7 y8) (racewaylaw15_DecompOrder.l0 (k + 1) y0 y1 y2 y3 y4 y5 y6 y7 y8)) ∧ (∀ y0 y1 y2 y3 y4 y5 y6 y7 y8 y9 y10 y11, LeO (racewaylaw15_DecompOrder.l1 k y0 y1 y2 y3 y4 y5 y6 y7 y8 y9 y10 y11) (racewaylaw15_DecompOrder.l1 (k + 1) y0 y1 y2 y3 y4 y5 y6 y7 y8 y9 y10 y11))
 | 0 => ⟨fun _ _ _ _ _ _ _ _ _ r h => by simp [racewaylaw15_DecompOrder.j0] at h, fun _ _ _ _ _ _ _ _ _ r h => by simp [racewaylaw15_DecompOrder.l0] at h, fun _ _ _ _ _ _ _ _ _ _ _ _ r h => by simp [racewaylaw15_DecompOrder.l1] at h⟩
 | k + 1 => by
  (obtain ⟨ih0, ih1, ih2⟩ := racewaylaw15_DecompOrder.mono_l k); (refine ⟨?_, ?_, ?_⟩)
  ·intro y0 y1 y2 y3 y4 y5 y6 y7 y8
   unfold racewaylaw15_DecompOrder.j0
   repeat' first
   | (with_reducible exact ih0 _ _ _ _ _ _ _ _ _)
   | (with_reducible exact ih1 _ _ _ _ _ _ _ _ _)
   | (with_reducible exact ih2 _ _ _ _ _ _ _ _ _ _ _ _)
   | (with_reducible exact decomp_Split.mono _ _ _ _ _ _)
   | (with_reducible exact decomp_Sum.mono _ _ _ _ _ _)
   | (with_reducible exact racewaylaw15_made.mono _ _ _ _)
   | (with_reducible exact racewaylaw15_routed.mono _ _ _ _ _ _)
   | (with_reducible exact racewaylaw15_shown.mono _)
   | (with_reducible exact racewayref5_Same.mono _ _ _)
   | (with_reducible exact LeO.refl _)
   | (with_reducible exact LeO.none _)
   | (with_reducible refine LeO.ite ?_ ?_)
   | (with_reducible refine LeO.bind ?_ (fun _ => ?_))
   | exact ih0 _ _ _ _ _ _ _ _ _
   | exact ih1 _ _ _ _ _ _ _ _ _
   | exact ih2 _ _ _ _ _ _ _ _ _ _ _ _
   | exact decomp_Split.mono _ _ _ _ _ _
   | exact decomp_Sum.mono _ _ _ _ _ _
   | exact racewaylaw15_made.mono _ _ _ _
   | exact racewaylaw15_routed.mono _ _ _ _ _ _
   | exact racewaylaw15_shown.mono _
   | exact racewayref5_Same.mono _ _ _
   | exact LeO.none _
   | refine LeO.ite ?_ ?_
   | refine LeO.bind ?_ (fun _ => ?_)
  ·intro y0 y1 y2 y3 y4 y5 y6 y7 y8
   unfold racewaylaw15_DecompOrder.l0
   repeat' first
   | (with_reducible exact ih0 _ _ _ _ _ _ _ _ _)
   | (with_reducible exact ih1 _ _ _ _ _ _ _ _ _)
   | (with_reducible exact ih2 _ _ _ _ _ _ _ _ _ _ _ _)
   | (with_reducible exact decomp_Split.mono _ _ _ _ _ _)
   | (with_reducible exact decomp_Sum.mono _ _ _ _ _ _)
   | (with_reducible exact racewaylaw15_made.mono _ _ _ _)
   | (with_reducible exact racewaylaw15_routed.mono _ _ _ _ _ _)
   | (with_reducible exact racewaylaw15_shown.mono _)
   | (with_reducible exact racewayref5_Same.mono _ _ _)
   | (with_reducible exact LeO.refl _)
   | (with_reducible exact LeO.none _)
   | (with_reducible refine LeO.ite ?_ ?_)
   | (with_reducible refine LeO.bind ?_ (fun _ => ?_))
   | exact ih0 _ _ _ _ _ _ _ _ _
   | exact ih1 _ _ _ _ _ _ _ _ _
   | exact ih2 _ _ _ _ _ _ _ _ _ _ _ _
   | exact decomp_Split.mono _ _ _ _ _ _
   | exact decomp_Sum.mono _ _ _ _ _ _
   | exact racewaylaw15_made.mono _ _ _ _
   | exact racewaylaw15_routed.mono _ _ _ _ _ _
   | exact racewaylaw15_shown.mono _
   | exact racewayref5_Same.mono _ _ _
   | exact LeO.none _
   | refine LeO.ite ?_ ?_
   | refine LeO.bind ?_ (fun _ => ?_)
  ·intro y0 y1 y2 y3 y4 y5 y6 y7 y8 y9 y10 y11
   unfold racewaylaw15_DecompOrder.l1
   repeat' first
   | (with_reducible exact ih0 _ _ _ _ _ _ _ _ _)
   | (with_reducible exact ih1 _ _ _ _ _ _ _ _ _)
   | (with_reducible exact ih2 _ _ _ _ _ _ _ _ _ _ _ _)
   | (with_reducible exact decomp_Split.mono _ _ _ _ _ _)
   | (with_reducible exact decomp_Sum.mono _ _ _ _ _ _)
   | (with_reducible exact racewaylaw15_made.mono _ _ _ _)
   | (with_reducible exact racewaylaw15_routed.mono _ _ _ _ _ _)
   | (with_reducible exact racewaylaw15_shown.mono _)
   | (with_reducible exact racewayref5_Same.mono _ _ _)
   | (with_reducible exact LeO.refl _)
   | (with_reducible exact LeO.none _)
   | (with_reducible refine LeO.ite ?_ ?_)
   | (with_reducible refine LeO.bind ?_ (fun _ => ?_))
   | exact ih0 _ _ _ _ _ _ _ _ _
   | exact ih1 _ _ _ _ _ _ _ _ _
   | exact ih2 _ _ _ _ _ _ _ _ _ _ _ _
   | exact decomp_Split.mono _ _ _ _ _ _
   | exact decomp_Sum.mono _ _ _ _ _ _
   | exact racewaylaw15_made.mono _ _ _ _
   | exact racewaylaw15_routed.mono _ _ _ _ _ _
   | exact racewaylaw15_shown.mono _
   | exact racewayref5_Same.mono _ _ _
   | exact LeO.none _
   | refine LeO.ite ?_ ?_
   | refine LeO.bind ?_ (fun _ => ?_)
theorem racewaylaw15_DecompOrder.mono : ∀ a0 a1 a2 a3 a4 k, LeO (racewaylaw15_DecompOrder.f k a0 a1 a2 a3 a4) (racewaylaw15_DecompOrder.f (k + 1) a0 a1 a2 a3 a4) := by
 intro a0 a1 a2 a3 a4 k; (obtain ⟨ih0, ih1, ih2⟩ := racewaylaw15_DecompOrder.mono_l k); (unfold racewaylaw15_DecompOrder.f)
 repeat' first
   | (with_reducible exact ih0 _ _ _ _ _ _ _ _ _)
   | (with_reducible exact ih1 _ _ _ _ _ _ _ _ _)
   | (with_reducible exact ih2 _ _ _ _ _ _ _ _ _ _ _ _)
   | (with_reducible exact decomp_Split.mono _ _ _ _ _ _)
   | (with_reducible exact decomp_Sum.mono _ _ _ _ _ _)
   | (with_reducible exact racewaylaw15_made.mono _ _ _ _)
   | (with_reducible exact racewaylaw15_routed.mono _ _ _ _ _ _)
   | (with_reducible exact racewaylaw15_shown.mono _)
   | (with_reducible exact racewayref5_Same.mono _ _ _)
   | (with_reducible exact LeO.refl _)
   | (with_reducible exact LeO.none _)
   | (with_reducible refine LeO.ite ?_ ?_)
   | (with_reducible refine LeO.bind ?_ (fun _ => ?_))
   | exact ih0 _ _ _ _ _ _ _ _ _
   | exact ih1 _ _ _ _ _ _ _ _ _
   | exact ih2 _ _ _ _ _ _ _ _ _ _ _ _
   | exact decomp_Split.mono _ _ _ _ _ _
   | exact decomp_Sum.mono _ _ _ _ _ _
   | exact racewaylaw15_made.mono _ _ _ _
   | exact racewaylaw15_routed.mono _ _ _ _ _ _
   | exact racewaylaw15_shown.mono _
   | exact racewayref5_Same.mono _ _ _
   | exact LeO.none _
   | refine LeO.ite ?_ ?_
   | refine LeO.bind ?_ (fun _ => ?_)
/-- THE ONE PURE STATEMENT of racewaylaw15_DecompOrder. -/
def racewaylaw15_DecompOrder.Pure : Prop := ∀ (a0 : Int) (a1 : Int) (l2 : List (S61)) (l3 : List Int) (a4 : Int),(Lit.int .i64 a0).wf = true → (Lit.int .i64 a1).wf = true → l2.length ≤ maxLen → (∀ x ∈ l2,(Lit.int .i64 x.f0).wf = true ∧ (Lit.int .i64 x.f1).wf = true ∧ (Lit.int .i64 x.f2).wf = true) → l3.length ≤ maxLen → l3.length * 8 ≤ 140737488351232 → (∀ x ∈ l3,(Lit.int .i64 x).wf = true) → (Lit.int .i64 a4).wf = true → ∃ k,racewaylaw15_DecompOrder.f k a0 a1 l2 l3 a4 = some true
end Go.Proofs.Ytnjdjnoncoeffaa.PDecompOrder
