/- For the claim that the law NetOrder of the given program holds for every input: a text written by a program (wip/myprint over the kit's print), with contracts by hand where it says MANUAL. -/
import Derived.Test.YtjbeofcgnnlllaaPNetOrderx0
import Derived.Test.YtjbeofcgnnlllaaPNetOrderx3
import Derived.Test.YtjbeofcgnnlllaaPNetOrderx7
import Derived.Test.YtjbeofcgnnlllaaPNetOrderx8
import Derived.Test.YtjbeofcgnnlllaaPNetOrderx9
import Derived.Test.YtjbeofcgnnlllaaPNetOrderx11
import Derived.Test.YtjbeofcgnnlllaaPNetOrderx12
namespace Go.Proofs.Ytjbeofcgnnlllaa.PNetOrder
open Go.RowKit Go.Proofs.YtjbeofcgnnlllaaW.PrintWords Go.Proofs.YtjbeofcgnnlllaaW.PrintLast Go.Proofs.YtjbeofcgnnlllaaW.PrintMore
attribute [local go_sem] max2_int min2_int max_two min_two max_three min_three max_four min_four   -- for this text's walks alone
set_option linter.unusedVariables false
set_option linter.unusedSimpArgs false

/-! ### racewaylaw3_NetOrder: function 5 -/
def racewaylaw3_NetOrder.j0 : Nat → Int → Int → Int → Int → List (S28) → Option (Bool)
  | 0, _, _, _, _, _ => none
  | k + 1, x14, x146000, x146001, x146002, x146003 => (net_Check.f x146000 x146001 x146002 x146003).bind fun t156 => (if t156 = x14 then ((net_Turn.f x146000 x146001 x146002 x146003).bind fun bt157 => ((net_Check.f bt157.1 bt157.2.1 bt157.2.2.1 bt157.2.2.2).bind fun t163 => (if t163 = x14 then ((net_Copy.f x146000 x146001 x146002 x146003).bind fun bt164 => ((net_Check.f bt164.1 bt164.2.1 bt164.2.2.1 bt164.2.2.2).bind fun t170 => (some (t170 == x14)))) else (some false)))) else (some false))
def racewaylaw3_NetOrder.f (k : Nat) (a0 : Int) (a1 : Int) (l2 : List (S41)) (a3 : Int) (a4 : Int) : Option (Bool) := (racewaylaw3_shown.f).bind fun t138 => (if t138 = true then ((racewaylaw3_made.f k a0 a1 l2).bind fun bt139 => (if bt139.2.2.2.length < 5864062014805 then ((some (bt139.2.2.2 ++ [(⟨1, 2, 1⟩ : S28)] : List (S28))).bind fun y146 => ((racewaylaw3_pick.f a3 (y146.length : Int)).bind fun t149 => ((racewaylaw3_pick.f a4 9).bind fun t150 => (if t150 = 0 then (racewaylaw3_NetOrder.j0 k 3 501 bt139.2.1 bt139.2.2.1 y146) else (if t150 = 1 then (racewaylaw3_NetOrder.j0 k 3 1 bt139.2.1 bt139.2.2.1 y146) else (if t150 = 2 then (racewaylaw3_NetOrder.j0 k 4 bt139.1 bt139.2.1 (wrap64 (bt139.1 + 1)) y146) else (if t150 = 3 then (racewaylaw3_NetOrder.j0 k 4 bt139.1 0 bt139.2.2.1 y146) else (if t150 = 4 then (racewaylaw3_NetOrder.j0 k 5 bt139.1 bt139.2.1 bt139.2.1 y146) else (if t150 = 5 then (if 0 ≤ t149 then (if t149 < (y146.length : Int) then ((some (y146.set (t149 : Int).toNat (⟨0, (rd_T28 y146 t149).f1, (rd_T28 y146 t149).f2⟩ : S28) : List (S28))).bind fun y151 => (racewaylaw3_NetOrder.j0 k 4 bt139.1 bt139.2.1 bt139.2.2.1 (y151.set (t149 : Int).toNat (⟨(rd_T28 y151 t149).f0, (rd_T28 y151 t149).f1, (-1)⟩ : S28)))) else (none)) else (none)) else (if t150 = 6 then (if 0 ≤ t149 then (if t149 < (y146.length : Int) then (racewaylaw3_NetOrder.j0 k 4 bt139.1 bt139.2.1 bt139.2.2.1 (y146.set (t149 : Int).toNat (⟨(rd_T28 y146 t149).f0, wrap64 (bt139.1 + 1), (rd_T28 y146 t149).f2⟩ : S28))) else (none)) else (none)) else (if t150 = 7 then (if 0 ≤ t149 then (if t149 < (y146.length : Int) then (racewaylaw3_NetOrder.j0 k 3 bt139.1 bt139.2.1 bt139.2.2.1 (y146.set (t149 : Int).toNat (⟨(rd_T28 y146 t149).f0, (rd_T28 y146 t149).f1, (-1)⟩ : S28))) else (none)) else (none)) else (if 0 ≤ t149 then (if t149 < (y146.length : Int) then (racewaylaw3_NetOrder.j0 k 7 bt139.1 bt139.2.1 bt139.2.2.1 (y146.set (t149 : Int).toNat (⟨(rd_T28 y146 t149).f0, (rd_T28 y146 t149).f1, 4611686018427387904⟩ : S28))) else (none)) else (none))))))))))))) else (none))) else (some false))
theorem racewaylaw3_NetOrder.mono_l : ∀ k, (∀ y0 y1 y2 y3 y4, LeO (racewaylaw3_NetOrder.j0 k y0 y1 y2 y3 y4) (racewaylaw3_NetOrder.j0 (k + 1) y0 y1 y2 y3 y4))
  | 0 => fun _ _ _ _ _ r h => by simp [racewaylaw3_NetOrder.j0] at h
  | k + 1 => by
    have ih0 := racewaylaw3_NetOrder.mono_l k
    · intro y0 y1 y2 y3 y4
      unfold racewaylaw3_NetOrder.j0
      repeat' first
      | (with_reducible exact ih0 _ _ _ _ _)
      | (with_reducible exact racewaylaw3_made.mono _ _ _ _)
      | (with_reducible exact LeO.refl _)
      | (with_reducible exact LeO.none _)
      | (with_reducible refine LeO.ite ?_ ?_)
      | (with_reducible refine LeO.bind ?_ (fun _ => ?_))
      | exact ih0 _ _ _ _ _
      | exact racewaylaw3_made.mono _ _ _ _
      | exact LeO.none _
      | refine LeO.ite ?_ ?_
      | refine LeO.bind ?_ (fun _ => ?_)
theorem racewaylaw3_NetOrder.mono : ∀ a0 a1 a2 a3 a4 k, LeO (racewaylaw3_NetOrder.f k a0 a1 a2 a3 a4) (racewaylaw3_NetOrder.f (k + 1) a0 a1 a2 a3 a4) := by
  intro a0 a1 a2 a3 a4 k
  have ih0 := racewaylaw3_NetOrder.mono_l k
  unfold racewaylaw3_NetOrder.f
  repeat' first
      | (with_reducible exact ih0 _ _ _ _ _)
      | (with_reducible exact racewaylaw3_made.mono _ _ _ _)
      | (with_reducible exact LeO.refl _)
      | (with_reducible exact LeO.none _)
      | (with_reducible refine LeO.ite ?_ ?_)
      | (with_reducible refine LeO.bind ?_ (fun _ => ?_))
      | exact ih0 _ _ _ _ _
      | exact racewaylaw3_made.mono _ _ _ _
      | exact LeO.none _
      | refine LeO.ite ?_ ?_
      | refine LeO.bind ?_ (fun _ => ?_)
set_option maxHeartbeats 8000000 in
set_option maxRecDepth 100000 in
theorem racewaylaw3_NetOrder.calls (k : Nat) (a0 : Int) (a1 : Int) (A2 : Option Addr) (c2 : Nat) (l2 : List (S41)) (a3 : Int) (a4 : Int) (r : Bool) (w : World) (hr2 : Kd.C k41 w A2 l2.length l2) (hc2 : l2.length ≤ c2) (h : racewaylaw3_NetOrder.f k a0 a1 l2 a3 a4 = some r) (hrT_ : Aside0 (r = true)) :
    Calls Try.prog 5 #[.int .i64 a0, .int .i64 a1, .slice A2 l2.length c2, .int .i64 a3, .int .i64 a4] w fun e w' => e = .returned (.bool r) ∧ Below w.heap.size w w' := by
  have hu26 := Try.underlying26
  have hu28 := Try.underlying28
  have HR2 := Aside0.mk hr2
  have HC2 := Aside0.mk hc2
  clear hr2 hc2
  have HB := Aside0.mk (Below.refl w.heap.size w)
  have H : ((racewaylaw3_shown.f).bind fun t138 => (if t138 = true then ((racewaylaw3_made.f k a0 a1 l2).bind fun bt139 => (if bt139.2.2.2.length < 5864062014805 then ((some (bt139.2.2.2 ++ [(⟨1, 2, 1⟩ : S28)] : List (S28))).bind fun y146 => ((racewaylaw3_pick.f a3 (y146.length : Int)).bind fun t149 => ((racewaylaw3_pick.f a4 9).bind fun t150 => (if t150 = 0 then (racewaylaw3_NetOrder.j0 k 3 501 bt139.2.1 bt139.2.2.1 y146) else (if t150 = 1 then (racewaylaw3_NetOrder.j0 k 3 1 bt139.2.1 bt139.2.2.1 y146) else (if t150 = 2 then (racewaylaw3_NetOrder.j0 k 4 bt139.1 bt139.2.1 (wrap64 (bt139.1 + 1)) y146) else (if t150 = 3 then (racewaylaw3_NetOrder.j0 k 4 bt139.1 0 bt139.2.2.1 y146) else (if t150 = 4 then (racewaylaw3_NetOrder.j0 k 5 bt139.1 bt139.2.1 bt139.2.1 y146) else (if t150 = 5 then (if 0 ≤ t149 then (if t149 < (y146.length : Int) then ((some (y146.set (t149 : Int).toNat (⟨0, (rd_T28 y146 t149).f1, (rd_T28 y146 t149).f2⟩ : S28) : List (S28))).bind fun y151 => (racewaylaw3_NetOrder.j0 k 4 bt139.1 bt139.2.1 bt139.2.2.1 (y151.set (t149 : Int).toNat (⟨(rd_T28 y151 t149).f0, (rd_T28 y151 t149).f1, (-1)⟩ : S28)))) else (none)) else (none)) else (if t150 = 6 then (if 0 ≤ t149 then (if t149 < (y146.length : Int) then (racewaylaw3_NetOrder.j0 k 4 bt139.1 bt139.2.1 bt139.2.2.1 (y146.set (t149 : Int).toNat (⟨(rd_T28 y146 t149).f0, wrap64 (bt139.1 + 1), (rd_T28 y146 t149).f2⟩ : S28))) else (none)) else (none)) else (if t150 = 7 then (if 0 ≤ t149 then (if t149 < (y146.length : Int) then (racewaylaw3_NetOrder.j0 k 3 bt139.1 bt139.2.1 bt139.2.2.1 (y146.set (t149 : Int).toNat (⟨(rd_T28 y146 t149).f0, (rd_T28 y146 t149).f1, (-1)⟩ : S28))) else (none)) else (none)) else (if 0 ≤ t149 then (if t149 < (y146.length : Int) then (racewaylaw3_NetOrder.j0 k 7 bt139.1 bt139.2.1 bt139.2.2.1 (y146.set (t149 : Int).toNat (⟨(rd_T28 y146 t149).f0, (rd_T28 y146 t149).f1, 4611686018427387904⟩ : S28))) else (none)) else (none))))))))))))) else (none))) else (some false))) = some r := h
  clear h
  replace H := Option.bind_eq_some_iff.mp H
  obtain ⟨t138, A60, H⟩ := H
  replace H : (if t138 = true then ((racewaylaw3_made.f k a0 a1 l2).bind fun bt139 => (if bt139.2.2.2.length < 5864062014805 then ((some (bt139.2.2.2 ++ [(⟨1, 2, 1⟩ : S28)] : List (S28))).bind fun y146 => ((racewaylaw3_pick.f a3 (y146.length : Int)).bind fun t149 => ((racewaylaw3_pick.f a4 9).bind fun t150 => (if t150 = 0 then (racewaylaw3_NetOrder.j0 k 3 501 bt139.2.1 bt139.2.2.1 y146) else (if t150 = 1 then (racewaylaw3_NetOrder.j0 k 3 1 bt139.2.1 bt139.2.2.1 y146) else (if t150 = 2 then (racewaylaw3_NetOrder.j0 k 4 bt139.1 bt139.2.1 (wrap64 (bt139.1 + 1)) y146) else (if t150 = 3 then (racewaylaw3_NetOrder.j0 k 4 bt139.1 0 bt139.2.2.1 y146) else (if t150 = 4 then (racewaylaw3_NetOrder.j0 k 5 bt139.1 bt139.2.1 bt139.2.1 y146) else (if t150 = 5 then (if 0 ≤ t149 then (if t149 < (y146.length : Int) then ((some (y146.set (t149 : Int).toNat (⟨0, (rd_T28 y146 t149).f1, (rd_T28 y146 t149).f2⟩ : S28) : List (S28))).bind fun y151 => (racewaylaw3_NetOrder.j0 k 4 bt139.1 bt139.2.1 bt139.2.2.1 (y151.set (t149 : Int).toNat (⟨(rd_T28 y151 t149).f0, (rd_T28 y151 t149).f1, (-1)⟩ : S28)))) else (none)) else (none)) else (if t150 = 6 then (if 0 ≤ t149 then (if t149 < (y146.length : Int) then (racewaylaw3_NetOrder.j0 k 4 bt139.1 bt139.2.1 bt139.2.2.1 (y146.set (t149 : Int).toNat (⟨(rd_T28 y146 t149).f0, wrap64 (bt139.1 + 1), (rd_T28 y146 t149).f2⟩ : S28))) else (none)) else (none)) else (if t150 = 7 then (if 0 ≤ t149 then (if t149 < (y146.length : Int) then (racewaylaw3_NetOrder.j0 k 3 bt139.1 bt139.2.1 bt139.2.2.1 (y146.set (t149 : Int).toNat (⟨(rd_T28 y146 t149).f0, (rd_T28 y146 t149).f1, (-1)⟩ : S28))) else (none)) else (none)) else (if 0 ≤ t149 then (if t149 < (y146.length : Int) then (racewaylaw3_NetOrder.j0 k 7 bt139.1 bt139.2.1 bt139.2.2.1 (y146.set (t149 : Int).toNat (⟨(rd_T28 y146 t149).f0, (rd_T28 y146 t149).f1, 4611686018427387904⟩ : S28))) else (none)) else (none))))))))))))) else (none))) else (some false)) = some r := H
  have A6 := Aside0.mk A60
  clear A60
  by_cases c7 : t138 = true
  · subst c7
    have H1 : ((racewaylaw3_made.f k a0 a1 l2).bind fun bt139 => (if bt139.2.2.2.length < 5864062014805 then ((some (bt139.2.2.2 ++ [(⟨1, 2, 1⟩ : S28)] : List (S28))).bind fun y146 => ((racewaylaw3_pick.f a3 (y146.length : Int)).bind fun t149 => ((racewaylaw3_pick.f a4 9).bind fun t150 => (if t150 = 0 then (racewaylaw3_NetOrder.j0 k 3 501 bt139.2.1 bt139.2.2.1 y146) else (if t150 = 1 then (racewaylaw3_NetOrder.j0 k 3 1 bt139.2.1 bt139.2.2.1 y146) else (if t150 = 2 then (racewaylaw3_NetOrder.j0 k 4 bt139.1 bt139.2.1 (wrap64 (bt139.1 + 1)) y146) else (if t150 = 3 then (racewaylaw3_NetOrder.j0 k 4 bt139.1 0 bt139.2.2.1 y146) else (if t150 = 4 then (racewaylaw3_NetOrder.j0 k 5 bt139.1 bt139.2.1 bt139.2.1 y146) else (if t150 = 5 then (if 0 ≤ t149 then (if t149 < (y146.length : Int) then ((some (y146.set (t149 : Int).toNat (⟨0, (rd_T28 y146 t149).f1, (rd_T28 y146 t149).f2⟩ : S28) : List (S28))).bind fun y151 => (racewaylaw3_NetOrder.j0 k 4 bt139.1 bt139.2.1 bt139.2.2.1 (y151.set (t149 : Int).toNat (⟨(rd_T28 y151 t149).f0, (rd_T28 y151 t149).f1, (-1)⟩ : S28)))) else (none)) else (none)) else (if t150 = 6 then (if 0 ≤ t149 then (if t149 < (y146.length : Int) then (racewaylaw3_NetOrder.j0 k 4 bt139.1 bt139.2.1 bt139.2.2.1 (y146.set (t149 : Int).toNat (⟨(rd_T28 y146 t149).f0, wrap64 (bt139.1 + 1), (rd_T28 y146 t149).f2⟩ : S28))) else (none)) else (none)) else (if t150 = 7 then (if 0 ≤ t149 then (if t149 < (y146.length : Int) then (racewaylaw3_NetOrder.j0 k 3 bt139.1 bt139.2.1 bt139.2.2.1 (y146.set (t149 : Int).toNat (⟨(rd_T28 y146 t149).f0, (rd_T28 y146 t149).f1, (-1)⟩ : S28))) else (none)) else (none)) else (if 0 ≤ t149 then (if t149 < (y146.length : Int) then (racewaylaw3_NetOrder.j0 k 7 bt139.1 bt139.2.1 bt139.2.2.1 (y146.set (t149 : Int).toNat (⟨(rd_T28 y146 t149).f0, (rd_T28 y146 t149).f1, 4611686018427387904⟩ : S28))) else (none)) else (none))))))))))))) else (none))) = some r := by rw [if_pos rfl] at H; exact H
    clear H
    have H := H1
    clear H1
    replace H := Option.bind_eq_some_iff.mp H
    obtain ⟨⟨t139, t140, t141, t142⟩, A80, H⟩ := H
    replace H : (if t142.length < 5864062014805 then ((some (t142 ++ [(⟨1, 2, 1⟩ : S28)] : List (S28))).bind fun y146 => ((racewaylaw3_pick.f a3 (y146.length : Int)).bind fun t149 => ((racewaylaw3_pick.f a4 9).bind fun t150 => (if t150 = 0 then (racewaylaw3_NetOrder.j0 k 3 501 t140 t141 y146) else (if t150 = 1 then (racewaylaw3_NetOrder.j0 k 3 1 t140 t141 y146) else (if t150 = 2 then (racewaylaw3_NetOrder.j0 k 4 t139 t140 (wrap64 (t139 + 1)) y146) else (if t150 = 3 then (racewaylaw3_NetOrder.j0 k 4 t139 0 t141 y146) else (if t150 = 4 then (racewaylaw3_NetOrder.j0 k 5 t139 t140 t140 y146) else (if t150 = 5 then (if 0 ≤ t149 then (if t149 < (y146.length : Int) then ((some (y146.set (t149 : Int).toNat (⟨0, (rd_T28 y146 t149).f1, (rd_T28 y146 t149).f2⟩ : S28) : List (S28))).bind fun y151 => (racewaylaw3_NetOrder.j0 k 4 t139 t140 t141 (y151.set (t149 : Int).toNat (⟨(rd_T28 y151 t149).f0, (rd_T28 y151 t149).f1, (-1)⟩ : S28)))) else (none)) else (none)) else (if t150 = 6 then (if 0 ≤ t149 then (if t149 < (y146.length : Int) then (racewaylaw3_NetOrder.j0 k 4 t139 t140 t141 (y146.set (t149 : Int).toNat (⟨(rd_T28 y146 t149).f0, wrap64 (t139 + 1), (rd_T28 y146 t149).f2⟩ : S28))) else (none)) else (none)) else (if t150 = 7 then (if 0 ≤ t149 then (if t149 < (y146.length : Int) then (racewaylaw3_NetOrder.j0 k 3 t139 t140 t141 (y146.set (t149 : Int).toNat (⟨(rd_T28 y146 t149).f0, (rd_T28 y146 t149).f1, (-1)⟩ : S28))) else (none)) else (none)) else (if 0 ≤ t149 then (if t149 < (y146.length : Int) then (racewaylaw3_NetOrder.j0 k 7 t139 t140 t141 (y146.set (t149 : Int).toNat (⟨(rd_T28 y146 t149).f0, (rd_T28 y146 t149).f1, 4611686018427387904⟩ : S28))) else (none)) else (none))))))))))))) else (none)) = some r := H
    have A8 := Aside0.mk A80
    clear A80
    by_cases c9 : t142.length < 5864062014805
    · rw [if_pos c9] at H
      have LMc9 := Aside0.mk c9
      clear c9
      obtain ⟨y146, hy146⟩ : ∃ y_ : List (S28), y_ = (t142 ++ [(⟨1, 2, 1⟩ : S28)]) := ⟨_, rfl⟩
      replace H : ((racewaylaw3_pick.f a3 (y146.length : Int)).bind fun t149 => ((racewaylaw3_pick.f a4 9).bind fun t150 => (if t150 = 0 then (racewaylaw3_NetOrder.j0 k 3 501 t140 t141 y146) else (if t150 = 1 then (racewaylaw3_NetOrder.j0 k 3 1 t140 t141 y146) else (if t150 = 2 then (racewaylaw3_NetOrder.j0 k 4 t139 t140 (wrap64 (t139 + 1)) y146) else (if t150 = 3 then (racewaylaw3_NetOrder.j0 k 4 t139 0 t141 y146) else (if t150 = 4 then (racewaylaw3_NetOrder.j0 k 5 t139 t140 t140 y146) else (if t150 = 5 then (if 0 ≤ t149 then (if t149 < (y146.length : Int) then ((some (y146.set (t149 : Int).toNat (⟨0, (rd_T28 y146 t149).f1, (rd_T28 y146 t149).f2⟩ : S28) : List (S28))).bind fun y151 => (racewaylaw3_NetOrder.j0 k 4 t139 t140 t141 (y151.set (t149 : Int).toNat (⟨(rd_T28 y151 t149).f0, (rd_T28 y151 t149).f1, (-1)⟩ : S28)))) else (none)) else (none)) else (if t150 = 6 then (if 0 ≤ t149 then (if t149 < (y146.length : Int) then (racewaylaw3_NetOrder.j0 k 4 t139 t140 t141 (y146.set (t149 : Int).toNat (⟨(rd_T28 y146 t149).f0, wrap64 (t139 + 1), (rd_T28 y146 t149).f2⟩ : S28))) else (none)) else (none)) else (if t150 = 7 then (if 0 ≤ t149 then (if t149 < (y146.length : Int) then (racewaylaw3_NetOrder.j0 k 3 t139 t140 t141 (y146.set (t149 : Int).toNat (⟨(rd_T28 y146 t149).f0, (rd_T28 y146 t149).f1, (-1)⟩ : S28))) else (none)) else (none)) else (if 0 ≤ t149 then (if t149 < (y146.length : Int) then (racewaylaw3_NetOrder.j0 k 7 t139 t140 t141 (y146.set (t149 : Int).toNat (⟨(rd_T28 y146 t149).f0, (rd_T28 y146 t149).f1, 4611686018427387904⟩ : S28))) else (none)) else (none)))))))))))) = some r := by first | (rw [hy146]; with_reducible exact H) | (have H2_ := (Option.bind_some _ _).symm.trans H; rw [hy146]; with_reducible exact H2_) | (have H2_ := (Option.bind_some _ _).symm.trans H; with_reducible exact H2_) | with_reducible exact H | (rw [hy146]; exact H) | exact H
      have Ny146 := Aside0.mk hy146
      clear hy146
      replace H := Option.bind_eq_some_iff.mp H
      obtain ⟨t149, A100, H⟩ := H
      replace H : ((racewaylaw3_pick.f a4 9).bind fun t150 => (if t150 = 0 then (racewaylaw3_NetOrder.j0 k 3 501 t140 t141 y146) else (if t150 = 1 then (racewaylaw3_NetOrder.j0 k 3 1 t140 t141 y146) else (if t150 = 2 then (racewaylaw3_NetOrder.j0 k 4 t139 t140 (wrap64 (t139 + 1)) y146) else (if t150 = 3 then (racewaylaw3_NetOrder.j0 k 4 t139 0 t141 y146) else (if t150 = 4 then (racewaylaw3_NetOrder.j0 k 5 t139 t140 t140 y146) else (if t150 = 5 then (if 0 ≤ t149 then (if t149 < (y146.length : Int) then ((some (y146.set (t149 : Int).toNat (⟨0, (rd_T28 y146 t149).f1, (rd_T28 y146 t149).f2⟩ : S28) : List (S28))).bind fun y151 => (racewaylaw3_NetOrder.j0 k 4 t139 t140 t141 (y151.set (t149 : Int).toNat (⟨(rd_T28 y151 t149).f0, (rd_T28 y151 t149).f1, (-1)⟩ : S28)))) else (none)) else (none)) else (if t150 = 6 then (if 0 ≤ t149 then (if t149 < (y146.length : Int) then (racewaylaw3_NetOrder.j0 k 4 t139 t140 t141 (y146.set (t149 : Int).toNat (⟨(rd_T28 y146 t149).f0, wrap64 (t139 + 1), (rd_T28 y146 t149).f2⟩ : S28))) else (none)) else (none)) else (if t150 = 7 then (if 0 ≤ t149 then (if t149 < (y146.length : Int) then (racewaylaw3_NetOrder.j0 k 3 t139 t140 t141 (y146.set (t149 : Int).toNat (⟨(rd_T28 y146 t149).f0, (rd_T28 y146 t149).f1, (-1)⟩ : S28))) else (none)) else (none)) else (if 0 ≤ t149 then (if t149 < (y146.length : Int) then (racewaylaw3_NetOrder.j0 k 7 t139 t140 t141 (y146.set (t149 : Int).toNat (⟨(rd_T28 y146 t149).f0, (rd_T28 y146 t149).f1, 4611686018427387904⟩ : S28))) else (none)) else (none))))))))))) = some r := H
      have A10 := Aside0.mk A100
      clear A100
      replace H := Option.bind_eq_some_iff.mp H
      obtain ⟨t150, A110, H⟩ := H
      replace H : (if t150 = 0 then (racewaylaw3_NetOrder.j0 k 3 501 t140 t141 y146) else (if t150 = 1 then (racewaylaw3_NetOrder.j0 k 3 1 t140 t141 y146) else (if t150 = 2 then (racewaylaw3_NetOrder.j0 k 4 t139 t140 (wrap64 (t139 + 1)) y146) else (if t150 = 3 then (racewaylaw3_NetOrder.j0 k 4 t139 0 t141 y146) else (if t150 = 4 then (racewaylaw3_NetOrder.j0 k 5 t139 t140 t140 y146) else (if t150 = 5 then (if 0 ≤ t149 then (if t149 < (y146.length : Int) then ((some (y146.set (t149 : Int).toNat (⟨0, (rd_T28 y146 t149).f1, (rd_T28 y146 t149).f2⟩ : S28) : List (S28))).bind fun y151 => (racewaylaw3_NetOrder.j0 k 4 t139 t140 t141 (y151.set (t149 : Int).toNat (⟨(rd_T28 y151 t149).f0, (rd_T28 y151 t149).f1, (-1)⟩ : S28)))) else (none)) else (none)) else (if t150 = 6 then (if 0 ≤ t149 then (if t149 < (y146.length : Int) then (racewaylaw3_NetOrder.j0 k 4 t139 t140 t141 (y146.set (t149 : Int).toNat (⟨(rd_T28 y146 t149).f0, wrap64 (t139 + 1), (rd_T28 y146 t149).f2⟩ : S28))) else (none)) else (none)) else (if t150 = 7 then (if 0 ≤ t149 then (if t149 < (y146.length : Int) then (racewaylaw3_NetOrder.j0 k 3 t139 t140 t141 (y146.set (t149 : Int).toNat (⟨(rd_T28 y146 t149).f0, (rd_T28 y146 t149).f1, (-1)⟩ : S28))) else (none)) else (none)) else (if 0 ≤ t149 then (if t149 < (y146.length : Int) then (racewaylaw3_NetOrder.j0 k 7 t139 t140 t141 (y146.set (t149 : Int).toNat (⟨(rd_T28 y146 t149).f0, (rd_T28 y146 t149).f1, 4611686018427387904⟩ : S28))) else (none)) else (none)))))))))) = some r := H
      have A11 := Aside0.mk A110
      clear A110
      have HC12 := Aside0.mk H
      clear H
      go_enter Try.func5, Try.ntmps5
      go_upto_block 0 with (first | ((with_reducible refine gate_callee (f := 14) rfl ?_); refine goesL_ (some 15) rfl rfl Try.func14 (by kernel_rfl) rfl #[] rfl (by (try simp only [List.map_toArray, List.map_cons, List.map_nil]); first | done | rfl | (simp only [List.length_drop, List.length_take]; rfl)) ?_; (with_reducible refine (racewaylaw3_shown.calls  true _ A6.out).mono ?_); rintro e w13 ⟨rfl, hb⟩; refine ⟨_, rfl, ?_⟩; have n0_ := Aside0.mk (below_step (by repeat (first | (with_reducible first | exact HB.out | apply below_alloc | apply pw_below_drewN | apply below_drew1) | exact HB.out)) hb); clear HB; have HB := n0_; clear n0_; (try clear hb); (try clear hb2); (try clear hk); (try clear hi)) | ((with_reducible refine gate_callee (f := 17) rfl ?_); refine goesL_ (some 21) rfl rfl Try.func17 (by kernel_rfl) rfl #[.int .i64 a0, .int .i64 a1, .slice A2 l2.length c2] rfl (by (try simp only [List.map_toArray, List.map_cons, List.map_nil]); first | done | rfl | (simp only [List.length_drop, List.length_take]; rfl)) ?_; (with_reducible refine (racewaylaw3_made.calls k a0 a1 _ _ l2 t139 t140 t141 t142 _ ?side1 ?side2 A8.out).mono ?_); (case side1 => repeat (first | exact (Kd.C_below HR2.out HB.out) | (with_reducible refine Kd.C_alloc ?_ _) | (with_reducible refine Kd.C_drewN ?_ _) | (with_reducible refine Kd.C_drew ?_))); (case side2 => exact HC2.out); rintro e w14 ⟨v143, rfl, ho0, hb⟩; refine ⟨_, rfl, ?_⟩; have n0_ := Aside0.mk (Kd.R_lower ho0 (below_size (by repeat (first | (with_reducible first | exact HB.out | apply below_alloc | apply pw_below_drewN | apply below_drew1) | exact HB.out)))); have n1_ := Aside0.mk (below_step (by repeat (first | (with_reducible first | exact HB.out | apply below_alloc | apply pw_below_drewN | apply below_drew1) | exact HB.out)) hb); clear HB; have HO144 := n0_; have HB := n1_; clear n0_ n1_; (try clear hb); (try clear hb2); (try clear hk); (try clear hi); (try clear ho0)) | ((with_reducible refine gate_dst (N := 12) rfl ?_); refine box_event ?hg (N := 12) ?hd (cs := #[.int .i64 0, .int .i64 0, .int .i64 0, .slice none 0 0]) (t := 26) ?hr ?_; (case hd => rfl); (case hg => rfl); (case hr => first | (go_simp; done) | (go_simp; rfl)); intro gb145 hg w15 hbox hb; have n0_ := Aside0.mk (Kd.R_below (by (with_reducible repeat (first | apply Kd.R_alloc | apply Kd.R_drewN | apply Kd.R_drew)); exact HO144.out) hb); have n1_ := Aside0.mk (below_step (by repeat (first | (with_reducible first | exact HB.out | apply below_alloc | apply pw_below_drewN | apply below_drew1) | exact HB.out)) hb); have n2_ := Aside0.mk (hbox); have n3_ := Aside0.mk ((by rw [hg]; exact (below_size (by repeat (first | (with_reducible first | exact HB.out | apply below_alloc | apply pw_below_drewN | apply below_drew1) | exact HB.out))) : w.heap.size ≤ gb145)); have n4_ := Aside0.mk ((by rw [hg]; exact (below_size (by repeat (first | (with_reducible first | exact HB.out | apply below_alloc | apply pw_below_drewN | apply below_drew1) | exact HB.out))) : w.heap.size ≤ gb145)); clear HO144; clear HB; have HO144 := n0_; have HB := n1_; have BK145 := n2_; have GW145 := n3_; have GE145 := n4_; clear n0_ n1_ n2_ n3_ n4_; clear hb hbox hg; have hcz16_0 : w15.cell? ⟨gb145, 0, none⟩ = some (.int .i64 0) := (blk_cell BK145.out 0).trans rfl; have hcz16_1 : w15.cell? ⟨gb145, 1, none⟩ = some (.int .i64 0) := (blk_cell BK145.out 1).trans rfl; have hcz16_2 : w15.cell? ⟨gb145, 2, none⟩ = some (.int .i64 0) := (blk_cell BK145.out 2).trans rfl; have hcz16_3 : w15.cell? ⟨gb145, 3, none⟩ = some (.slice none 0 0) := (blk_cell BK145.out 3).trans rfl; have hfz16_0 := blk_frozen BK145.out 0; have hfz16_1 := blk_frozen BK145.out 1; have hfz16_2 := blk_frozen BK145.out 2; have hfz16_3 := blk_frozen BK145.out 3; obtain ⟨Ao17, co17, eo17⟩ := Kd.R_slice HO144.out; subst eo17) | ((with_reducible refine gate_store (t := 26) (p := 12) rfl ?_); refine store_event (t := 26) (p := 12) (v := ?vo_w18) (w1 := ((((w15.setCell ⟨gb145, 0, none⟩ (.int .i64 t139)).setCell ⟨gb145, 1, none⟩ (.int .i64 t140)).setCell ⟨gb145, 2, none⟩ (.int .i64 t141)).setCell ⟨gb145, 3, none⟩ (.slice Ao17 t142.length co17))) ?hg ?ho ?hn ?hr ?_; (case ho => rfl); (case hg => rfl); (case hn => rfl); (case hr => first | (go_simp; done) | (go_simp; rfl)); intro w18 hw; have n0_ : Aside0 (Kd.R k28 28 w18 w.heap.size (fun _ => True) (.slice Ao17 t142.length co17) t142) := ⟨(by rw [hw]; exact (by (with_reducible repeat (first | apply Kd.R_alloc | apply Kd.R_drewN | apply Kd.R_drew)); exact Kd.R_mono (Kd.R_far (p := ⟨gb145, 3, none⟩) (Kd.R_far (p := ⟨gb145, 2, none⟩) (Kd.R_far (p := ⟨gb145, 1, none⟩) (Kd.R_far (p := ⟨gb145, 0, none⟩) (Kd.R_types HO144.out BK145.out (by decide)) (fun _ hk => hk.2) (.int .i64 t139)) (fun _ hk => hk.2) (.int .i64 t140)) (fun _ hk => hk.2) (.int .i64 t141)) (fun _ hk => hk.2) (.slice Ao17 t142.length co17)) (fun _ hk => trivial)))⟩; have n1_ : Aside0 (w18.heap[gb145]? = some (.cells #[.int .i64 t139, .int .i64 t140, .int .i64 t141, .slice Ao17 t142.length co17] 26 (0, 0))) := ⟨(by rw [hw]; exact (by (with_reducible repeat (first | refine blk_drewN ?_ _ | refine blk_drew ?_ | refine blk_alloc ?_ _)); refine blk_put (cs := #[.int .i64 t139, .int .i64 t140, .int .i64 t141, .slice none 0 0]) ?_ 3 _ rfl; (with_reducible repeat (first | refine blk_drewN ?_ _ | refine blk_drew ?_ | refine blk_alloc ?_ _)); refine blk_put (cs := #[.int .i64 t139, .int .i64 t140, .int .i64 0, .slice none 0 0]) ?_ 2 _ rfl; (with_reducible repeat (first | refine blk_drewN ?_ _ | refine blk_drew ?_ | refine blk_alloc ?_ _)); refine blk_put (cs := #[.int .i64 t139, .int .i64 0, .int .i64 0, .slice none 0 0]) ?_ 1 _ rfl; (with_reducible repeat (first | refine blk_drewN ?_ _ | refine blk_drew ?_ | refine blk_alloc ?_ _)); refine blk_put (cs := #[.int .i64 0, .int .i64 0, .int .i64 0, .slice none 0 0]) ?_ 0 _ rfl; (with_reducible repeat (first | refine blk_drewN ?_ _ | refine blk_drew ?_ | refine blk_alloc ?_ _)); exact BK145.out))⟩; have n2_ : Aside0 (Below w.heap.size w w18) := ⟨(by rw [hw]; exact (by repeat (first | (with_reducible first | exact HB.out | apply below_alloc | apply pw_below_drewN | apply below_drew1 | refine below_set ?_ GE145.out) | exact HB.out)))⟩; clear hw; clear HO144; clear BK145; clear HB; have HO144 := n0_; have BK145 := n1_; have HB := n2_; clear n0_ n1_ n2_; have hcz19_0 : w18.cell? ⟨gb145, 0, none⟩ = some (.int .i64 t139) := (blk_cell BK145.out 0).trans rfl; have hcz19_1 : w18.cell? ⟨gb145, 1, none⟩ = some (.int .i64 t140) := (blk_cell BK145.out 1).trans rfl; have hcz19_2 : w18.cell? ⟨gb145, 2, none⟩ = some (.int .i64 t141) := (blk_cell BK145.out 2).trans rfl; have hcz19_3 : w18.cell? ⟨gb145, 3, none⟩ = some (.slice Ao17 t142.length co17) := (blk_cell BK145.out 3).trans rfl; have hfz19_0 := blk_frozen BK145.out 0; have hfz19_1 := blk_frozen BK145.out 1; have hfz19_2 := blk_frozen BK145.out 2; have hfz19_3 := blk_frozen BK145.out 3) | ((with_reducible refine gate_builtin (b := .append) (xs := #[.tmp 23, .tmp 25]) rfl ?_); at_builtin; refine Kd.R_append k28 (w0 := w) w.heap.size rfl (.tmp 23) (.tmp 25) 24 28 (.agg #[(.int .i64 0), (.int .i64 0), (.int .i64 0)]) 24 rfl Try.underlying24 info28 rfl (by decide) (by omega) (.slice Ao17 t142.length co17) t142 (⟨1, 2, 1⟩ : S28) [.int .i64 1, .int .i64 2, .int .i64 1] (fun _ => True) (fun _ => False) rfl rfl ?aP (fun _ hk => hk.elim) ?aF ?aO ?aB ?aS ?aL ?_; (case aP => exact k28_mkM _ _ _ (⟨1, 2, 1⟩ : S28)); (case aB => exact (by repeat (first | (with_reducible first | exact HB.out | apply below_alloc | apply pw_below_drewN | apply below_drew1 | refine below_set ?_ GE145.out) | exact HB.out))); (case aF => exact (fun _ _ => trivial)); (case aO => exact (by (with_reducible repeat (first | apply Kd.R_alloc | apply Kd.R_drewN | apply Kd.R_drew)); exact HO144.out)); (case aS => exact (below_size (by repeat (first | (with_reducible first | exact HB.out | apply below_alloc | apply pw_below_drewN | apply below_drew1 | refine below_set ?_ GE145.out) | exact HB.out)))); (case aL => have := LMc9.out; omega); intro v147 w20 ho hb hg hat; rw [← Ny146.out] at ho; have n0_ := Aside0.mk (blk_grown (g := gb145) (o := .cells #[.int .i64 t139, .int .i64 t140, .int .i64 t141, .slice Ao17 t142.length co17] 26 (0, 0)) (by (with_reducible repeat (first | refine blk_drewN ?_ _ | refine blk_drew ?_ | refine blk_alloc ?_ _)); exact BK145.out) hg (Kd.R_ne HO144.out BK145.out (by decide))); have n1_ := Aside0.mk (hb); have n2_ := Aside0.mk (ho); clear BK145; clear HB; clear HO144; have BK145 := n0_; have HB := n1_; have HO148 := n2_; clear n0_ n1_ n2_; clear ho hb hg hat; obtain ⟨Ao21, co21, eo21⟩ := Kd.R_slice HO148.out; subst eo21; have hcz22_0 : w20.cell? ⟨gb145, 0, none⟩ = some (.int .i64 t139) := (blk_cell BK145.out 0).trans rfl; have hcz22_1 : w20.cell? ⟨gb145, 1, none⟩ = some (.int .i64 t140) := (blk_cell BK145.out 1).trans rfl; have hcz22_2 : w20.cell? ⟨gb145, 2, none⟩ = some (.int .i64 t141) := (blk_cell BK145.out 2).trans rfl; have hcz22_3 : w20.cell? ⟨gb145, 3, none⟩ = some (.slice Ao17 t142.length co17) := (blk_cell BK145.out 3).trans rfl; have hfz22_0 := blk_frozen BK145.out 0; have hfz22_1 := blk_frozen BK145.out 1; have hfz22_2 := blk_frozen BK145.out 2; have hfz22_3 := blk_frozen BK145.out 3) | ((with_reducible refine gate_store (t := 24) (p := 27) rfl ?_); refine store_event (t := 24) (p := 27) (v := ?vo_w23) (w1 := (w20.setCell ⟨gb145, 3, none⟩ (.slice Ao21 y146.length co21))) ?hg ?ho ?hn ?hr ?_; (case ho => rfl); (case hg => rfl); (case hn => rfl); (case hr => first | (go_simp; done) | (go_simp; rfl)); intro w23 hw; have n0_ : Aside0 (Kd.R k28 28 w23 w.heap.size (fun _ => True) (.slice Ao21 y146.length co21) y146) := ⟨(by rw [hw]; exact (by (with_reducible repeat (first | apply Kd.R_alloc | apply Kd.R_drewN | apply Kd.R_drew)); exact Kd.R_mono (Kd.R_far (p := ⟨gb145, 3, none⟩) (Kd.R_types HO148.out BK145.out (by decide)) (fun _ hk => hk.2) (.slice Ao21 y146.length co21)) (fun _ hk => trivial)))⟩; have n1_ : Aside0 (w23.heap[gb145]? = some (.cells #[.int .i64 t139, .int .i64 t140, .int .i64 t141, .slice Ao21 y146.length co21] 26 (0, 0))) := ⟨(by rw [hw]; exact (by (with_reducible repeat (first | refine blk_drewN ?_ _ | refine blk_drew ?_ | refine blk_alloc ?_ _)); refine blk_put (cs := #[.int .i64 t139, .int .i64 t140, .int .i64 t141, .slice Ao17 t142.length co17]) ?_ 3 _ rfl; (with_reducible repeat (first | refine blk_drewN ?_ _ | refine blk_drew ?_ | refine blk_alloc ?_ _)); exact BK145.out))⟩; have n2_ : Aside0 (Below w.heap.size w w23) := ⟨(by rw [hw]; exact (by repeat (first | (with_reducible first | exact HB.out | apply below_alloc | apply pw_below_drewN | apply below_drew1 | refine below_set ?_ GE145.out) | exact HB.out)))⟩; clear hw; clear HO148; clear BK145; clear HB; have HO148 := n0_; have BK145 := n1_; have HB := n2_; clear n0_ n1_ n2_; have hcz24_0 : w23.cell? ⟨gb145, 0, none⟩ = some (.int .i64 t139) := (blk_cell BK145.out 0).trans rfl; have hcz24_1 : w23.cell? ⟨gb145, 1, none⟩ = some (.int .i64 t140) := (blk_cell BK145.out 1).trans rfl; have hcz24_2 : w23.cell? ⟨gb145, 2, none⟩ = some (.int .i64 t141) := (blk_cell BK145.out 2).trans rfl; have hcz24_3 : w23.cell? ⟨gb145, 3, none⟩ = some (.slice Ao21 y146.length co21) := (blk_cell BK145.out 3).trans rfl; have hfz24_0 := blk_frozen BK145.out 0; have hfz24_1 := blk_frozen BK145.out 1; have hfz24_2 := blk_frozen BK145.out 2; have hfz24_3 := blk_frozen BK145.out 3) | ((with_reducible refine gate_callee (f := 15) rfl ?_); refine goesL_ (some 32) rfl rfl Try.func15 (by kernel_rfl) rfl #[.int .i64 a3, .int .i64 (y146.length : Int)] rfl (by (try simp only [List.map_toArray, List.map_cons, List.map_nil]); first | done | rfl | (simp only [List.length_drop, List.length_take]; rfl)) ?_; (with_reducible refine (racewaylaw3_pick.calls a3 (y146.length : Int) t149 _ A10.out).mono ?_); rintro e w' ⟨rfl, ⟨nd, rfl⟩⟩; refine ⟨_, rfl, ?_⟩; (try (rw [drewN_self w23]; generalize hq_ : World.drewN w23 _ = w23; have n0_ : Aside0 (Kd.R k28 28 w23 w.heap.size (fun _ => True) (.slice Ao21 y146.length co21) y146) := ⟨by rw [← hq_]; exact (by (with_reducible repeat (first | apply Kd.R_alloc | apply Kd.R_drewN | apply Kd.R_drew)); exact HO148.out)⟩; have n1_ : Aside0 (w23.heap[gb145]? = some (.cells #[.int .i64 t139, .int .i64 t140, .int .i64 t141, .slice Ao21 y146.length co21] 26 (0, 0))) := ⟨by rw [← hq_]; exact (by (with_reducible repeat (first | refine blk_drewN ?_ _ | refine blk_drew ?_ | refine blk_alloc ?_ _)); exact BK145.out)⟩; have n2_ : Aside0 (Below w.heap.size w w23) := ⟨by rw [← hq_]; exact (by repeat (first | (with_reducible first | exact HB.out | apply below_alloc | apply pw_below_drewN | apply below_drew1 | refine below_set ?_ GE145.out) | exact HB.out))⟩; clear HO148 BK145 HB hq_; have HO148 := n0_; have BK145 := n1_; have HB := n2_; clear n0_ n1_ n2_; have hcqBK145_0 : w23.cell? ⟨gb145, 0, none⟩ = some (.int .i64 t139) := (blk_cell BK145.out 0).trans rfl; have hfqBK145_0 := blk_frozen BK145.out 0; have hcqBK145_1 : w23.cell? ⟨gb145, 1, none⟩ = some (.int .i64 t140) := (blk_cell BK145.out 1).trans rfl; have hfqBK145_1 := blk_frozen BK145.out 1; have hcqBK145_2 : w23.cell? ⟨gb145, 2, none⟩ = some (.int .i64 t141) := (blk_cell BK145.out 2).trans rfl; have hfqBK145_2 := blk_frozen BK145.out 2; have hcqBK145_3 : w23.cell? ⟨gb145, 3, none⟩ = some (.slice Ao21 y146.length co21) := (blk_cell BK145.out 3).trans rfl; have hfqBK145_3 := blk_frozen BK145.out 3))) | ((with_reducible refine gate_callee (f := 15) rfl ?_); refine goesL_ (some 34) rfl rfl Try.func15 (by kernel_rfl) rfl #[.int .i64 a4, .int .i64 9] rfl (by (try simp only [List.map_toArray, List.map_cons, List.map_nil]); first | done | rfl | (simp only [List.length_drop, List.length_take]; rfl)) ?_; (with_reducible refine (racewaylaw3_pick.calls a4 9 t150 _ A11.out).mono ?_); rintro e w' ⟨rfl, ⟨nd, rfl⟩⟩; refine ⟨_, rfl, ?_⟩; (try (rw [drewN_self w23]; generalize hq_ : World.drewN w23 _ = w23; have n0_ : Aside0 (Kd.R k28 28 w23 w.heap.size (fun _ => True) (.slice Ao21 y146.length co21) y146) := ⟨by rw [← hq_]; exact (by (with_reducible repeat (first | apply Kd.R_alloc | apply Kd.R_drewN | apply Kd.R_drew)); exact HO148.out)⟩; have n1_ : Aside0 (w23.heap[gb145]? = some (.cells #[.int .i64 t139, .int .i64 t140, .int .i64 t141, .slice Ao21 y146.length co21] 26 (0, 0))) := ⟨by rw [← hq_]; exact (by (with_reducible repeat (first | refine blk_drewN ?_ _ | refine blk_drew ?_ | refine blk_alloc ?_ _)); exact BK145.out)⟩; have n2_ : Aside0 (Below w.heap.size w w23) := ⟨by rw [← hq_]; exact (by repeat (first | (with_reducible first | exact HB.out | apply below_alloc | apply pw_below_drewN | apply below_drew1 | refine below_set ?_ GE145.out) | exact HB.out))⟩; clear HO148 BK145 HB hq_; have HO148 := n0_; have BK145 := n1_; have HB := n2_; clear n0_ n1_ n2_; have hcqBK145_0 : w23.cell? ⟨gb145, 0, none⟩ = some (.int .i64 t139) := (blk_cell BK145.out 0).trans rfl; have hfqBK145_0 := blk_frozen BK145.out 0; have hcqBK145_1 : w23.cell? ⟨gb145, 1, none⟩ = some (.int .i64 t140) := (blk_cell BK145.out 1).trans rfl; have hfqBK145_1 := blk_frozen BK145.out 1; have hcqBK145_2 : w23.cell? ⟨gb145, 2, none⟩ = some (.int .i64 t141) := (blk_cell BK145.out 2).trans rfl; have hfqBK145_2 := blk_frozen BK145.out 2; have hcqBK145_3 : w23.cell? ⟨gb145, 3, none⟩ = some (.slice Ao21 y146.length co21) := (blk_cell BK145.out 3).trans rfl; have hfqBK145_3 := blk_frozen BK145.out 3))))
      (try simp only [Act.put, List.setIfInBounds_toArray, List.set_cons_zero, List.set_cons_succ])
      go_cut [14] (fun v14 wc => ∃ (kq : Nat) (x14_11 : Int) (x146000_11 : Int) (x146001_11 : Int) (x146002_11 : Int) (x146003_11 : List (S28)) (u146003 : Value), v14 = .int .i64 x14_11 ∧ Aside0 (racewaylaw3_NetOrder.j0 kq x14_11 x146000_11 x146001_11 x146002_11 x146003_11 = some r) ∧ Aside0 (kq ≤ k) ∧ Aside0 (Kd.R k28 28 wc w.heap.size (fun _ => True) u146003 x146003_11) ∧ Aside0 (wc.heap[gb145]? = some (.cells #[.int .i64 x146000_11, .int .i64 x146001_11, .int .i64 x146002_11, u146003] 26 (0, 0))) ∧ Aside0 (Below w.heap.size w wc))
      case first =>
        have H := HC12.out
        clear HC12
        by_cases c25 : t150 = 0
        · rw [if_pos c25] at H
          have c25b0 : (t150 == 0) = true := beq_iff_eq.mpr c25
          have c25b1 : (t150 != 0) = false := bne_eq_false_iff_eq.mpr c25
          clear c25
          (first | rw [c25b0] | (simp only [i64_w, i32_w]; rw [c25b0]) | skip)
          have H' := Aside0.mk H
          clear H
          have hcz26_0 : w23.cell? ⟨gb145, 0, none⟩ = some (.int .i64 t139) := (blk_cell BK145.out 0).trans rfl
          have hcz26_1 : w23.cell? ⟨gb145, 1, none⟩ = some (.int .i64 t140) := (blk_cell BK145.out 1).trans rfl
          have hcz26_2 : w23.cell? ⟨gb145, 2, none⟩ = some (.int .i64 t141) := (blk_cell BK145.out 2).trans rfl
          have hcz26_3 : w23.cell? ⟨gb145, 3, none⟩ = some (.slice Ao21 y146.length co21) := (blk_cell BK145.out 3).trans rfl
          have hfz26_0 := blk_frozen BK145.out 0
          have hfz26_1 := blk_frozen BK145.out 1
          have hfz26_2 := blk_frozen BK145.out 2
          have hfz26_3 := blk_frozen BK145.out 3
          go_wp2
          go_meet
          case rel => exact ⟨_, (3), (501), (t140), (t141), (y146), (.slice Ao21 y146.length co21), (by first | rfl | (simp; done) | (simp [*]; done)), H', ⟨by first | omega | exact Nat.le_refl _⟩, ⟨by (with_reducible repeat (first | apply Kd.R_alloc | apply Kd.R_drewN | apply Kd.R_drew)); exact Kd.R_mono (Kd.R_far (p := ⟨gb145, 0, none⟩) (Kd.R_types HO148.out BK145.out (by decide)) (fun _ hk => hk.2) (.int .i64 501)) (fun _ hk => trivial)⟩, ⟨by (with_reducible repeat (first | refine blk_drewN ?_ _ | refine blk_drew ?_ | refine blk_alloc ?_ _)); refine blk_put (cs := #[.int .i64 t139, .int .i64 t140, .int .i64 t141, .slice Ao21 y146.length co21]) ?_ 0 _ rfl; (with_reducible repeat (first | refine blk_drewN ?_ _ | refine blk_drew ?_ | refine blk_alloc ?_ _)); exact BK145.out⟩, ⟨by repeat (first | (with_reducible first | exact HB.out | apply below_alloc | apply pw_below_drewN | apply below_drew1 | refine below_set ?_ GE145.out) | exact HB.out)⟩⟩
        · rw [if_neg c25] at H
          have c25b0 : (t150 == 0) = false := beq_eq_false_iff_ne.mpr c25
          have c25b1 : (t150 != 0) = true := bne_iff_ne.mpr c25
          (first | rw [c25b0] | (simp only [i64_w, i32_w]; rw [c25b0]) | skip)
          by_cases c27 : t150 = 1
          · rw [if_pos c27] at H
            have c27b0 : (t150 == 1) = true := beq_iff_eq.mpr c27
            have c27b1 : (t150 != 1) = false := bne_eq_false_iff_eq.mpr c27
            clear c27
            have H' := Aside0.mk H
            clear H
            have hcz28_0 : w23.cell? ⟨gb145, 0, none⟩ = some (.int .i64 t139) := (blk_cell BK145.out 0).trans rfl
            have hcz28_1 : w23.cell? ⟨gb145, 1, none⟩ = some (.int .i64 t140) := (blk_cell BK145.out 1).trans rfl
            have hcz28_2 : w23.cell? ⟨gb145, 2, none⟩ = some (.int .i64 t141) := (blk_cell BK145.out 2).trans rfl
            have hcz28_3 : w23.cell? ⟨gb145, 3, none⟩ = some (.slice Ao21 y146.length co21) := (blk_cell BK145.out 3).trans rfl
            have hfz28_0 := blk_frozen BK145.out 0
            have hfz28_1 := blk_frozen BK145.out 1
            have hfz28_2 := blk_frozen BK145.out 2
            have hfz28_3 := blk_frozen BK145.out 3
            go_wp2
            go_meet
            case rel => exact ⟨_, (3), (1), (t140), (t141), (y146), (.slice Ao21 y146.length co21), (by first | rfl | (simp; done) | (simp [*]; done)), H', ⟨by first | omega | exact Nat.le_refl _⟩, ⟨by (with_reducible repeat (first | apply Kd.R_alloc | apply Kd.R_drewN | apply Kd.R_drew)); exact Kd.R_mono (Kd.R_far (p := ⟨gb145, 0, none⟩) (Kd.R_types HO148.out BK145.out (by decide)) (fun _ hk => hk.2) (.int .i64 1)) (fun _ hk => trivial)⟩, ⟨by (with_reducible repeat (first | refine blk_drewN ?_ _ | refine blk_drew ?_ | refine blk_alloc ?_ _)); refine blk_put (cs := #[.int .i64 t139, .int .i64 t140, .int .i64 t141, .slice Ao21 y146.length co21]) ?_ 0 _ rfl; (with_reducible repeat (first | refine blk_drewN ?_ _ | refine blk_drew ?_ | refine blk_alloc ?_ _)); exact BK145.out⟩, ⟨by repeat (first | (with_reducible first | exact HB.out | apply below_alloc | apply pw_below_drewN | apply below_drew1 | refine below_set ?_ GE145.out) | exact HB.out)⟩⟩
          · rw [if_neg c27] at H
            have c27b0 : (t150 == 1) = false := beq_eq_false_iff_ne.mpr c27
            have c27b1 : (t150 != 1) = true := bne_iff_ne.mpr c27
            by_cases c29 : t150 = 2
            · rw [if_pos c29] at H
              have c29b0 : (t150 == 2) = true := beq_iff_eq.mpr c29
              have c29b1 : (t150 != 2) = false := bne_eq_false_iff_eq.mpr c29
              clear c29
              have H' := Aside0.mk H
              clear H
              have hcz30_0 : w23.cell? ⟨gb145, 0, none⟩ = some (.int .i64 t139) := (blk_cell BK145.out 0).trans rfl
              have hcz30_1 : w23.cell? ⟨gb145, 1, none⟩ = some (.int .i64 t140) := (blk_cell BK145.out 1).trans rfl
              have hcz30_2 : w23.cell? ⟨gb145, 2, none⟩ = some (.int .i64 t141) := (blk_cell BK145.out 2).trans rfl
              have hcz30_3 : w23.cell? ⟨gb145, 3, none⟩ = some (.slice Ao21 y146.length co21) := (blk_cell BK145.out 3).trans rfl
              have hfz30_0 := blk_frozen BK145.out 0
              have hfz30_1 := blk_frozen BK145.out 1
              have hfz30_2 := blk_frozen BK145.out 2
              have hfz30_3 := blk_frozen BK145.out 3
              go_wp2
              go_meet
              case rel => exact ⟨_, (4), (t139), (t140), (wrap64 (t139 + 1)), (y146), (.slice Ao21 y146.length co21), (by first | rfl | (simp; done) | (simp [*]; done)), H', ⟨by first | omega | exact Nat.le_refl _⟩, ⟨by (with_reducible repeat (first | apply Kd.R_alloc | apply Kd.R_drewN | apply Kd.R_drew)); exact Kd.R_mono (Kd.R_far (p := ⟨gb145, 2, none⟩) (Kd.R_types HO148.out BK145.out (by decide)) (fun _ hk => hk.2) (.int .i64 (wrap64 (t139 + 1)))) (fun _ hk => trivial)⟩, ⟨by (with_reducible repeat (first | refine blk_drewN ?_ _ | refine blk_drew ?_ | refine blk_alloc ?_ _)); refine blk_put (cs := #[.int .i64 t139, .int .i64 t140, .int .i64 t141, .slice Ao21 y146.length co21]) ?_ 2 _ rfl; (with_reducible repeat (first | refine blk_drewN ?_ _ | refine blk_drew ?_ | refine blk_alloc ?_ _)); exact BK145.out⟩, ⟨by repeat (first | (with_reducible first | exact HB.out | apply below_alloc | apply pw_below_drewN | apply below_drew1 | refine below_set ?_ GE145.out) | exact HB.out)⟩⟩
            · rw [if_neg c29] at H
              have c29b0 : (t150 == 2) = false := beq_eq_false_iff_ne.mpr c29
              have c29b1 : (t150 != 2) = true := bne_iff_ne.mpr c29
              by_cases c31 : t150 = 3
              · rw [if_pos c31] at H
                have c31b0 : (t150 == 3) = true := beq_iff_eq.mpr c31
                have c31b1 : (t150 != 3) = false := bne_eq_false_iff_eq.mpr c31
                clear c31
                have H' := Aside0.mk H
                clear H
                have hcz32_0 : w23.cell? ⟨gb145, 0, none⟩ = some (.int .i64 t139) := (blk_cell BK145.out 0).trans rfl
                have hcz32_1 : w23.cell? ⟨gb145, 1, none⟩ = some (.int .i64 t140) := (blk_cell BK145.out 1).trans rfl
                have hcz32_2 : w23.cell? ⟨gb145, 2, none⟩ = some (.int .i64 t141) := (blk_cell BK145.out 2).trans rfl
                have hcz32_3 : w23.cell? ⟨gb145, 3, none⟩ = some (.slice Ao21 y146.length co21) := (blk_cell BK145.out 3).trans rfl
                have hfz32_0 := blk_frozen BK145.out 0
                have hfz32_1 := blk_frozen BK145.out 1
                have hfz32_2 := blk_frozen BK145.out 2
                have hfz32_3 := blk_frozen BK145.out 3
                go_wp2
                go_meet
                case rel => exact ⟨_, (4), (t139), (0), (t141), (y146), (.slice Ao21 y146.length co21), (by first | rfl | (simp; done) | (simp [*]; done)), H', ⟨by first | omega | exact Nat.le_refl _⟩, ⟨by (with_reducible repeat (first | apply Kd.R_alloc | apply Kd.R_drewN | apply Kd.R_drew)); exact Kd.R_mono (Kd.R_far (p := ⟨gb145, 1, none⟩) (Kd.R_types HO148.out BK145.out (by decide)) (fun _ hk => hk.2) (.int .i64 0)) (fun _ hk => trivial)⟩, ⟨by (with_reducible repeat (first | refine blk_drewN ?_ _ | refine blk_drew ?_ | refine blk_alloc ?_ _)); refine blk_put (cs := #[.int .i64 t139, .int .i64 t140, .int .i64 t141, .slice Ao21 y146.length co21]) ?_ 1 _ rfl; (with_reducible repeat (first | refine blk_drewN ?_ _ | refine blk_drew ?_ | refine blk_alloc ?_ _)); exact BK145.out⟩, ⟨by repeat (first | (with_reducible first | exact HB.out | apply below_alloc | apply pw_below_drewN | apply below_drew1 | refine below_set ?_ GE145.out) | exact HB.out)⟩⟩
              · rw [if_neg c31] at H
                have c31b0 : (t150 == 3) = false := beq_eq_false_iff_ne.mpr c31
                have c31b1 : (t150 != 3) = true := bne_iff_ne.mpr c31
                by_cases c33 : t150 = 4
                · rw [if_pos c33] at H
                  have c33b0 : (t150 == 4) = true := beq_iff_eq.mpr c33
                  have c33b1 : (t150 != 4) = false := bne_eq_false_iff_eq.mpr c33
                  clear c33
                  have H' := Aside0.mk H
                  clear H
                  have hcz34_0 : w23.cell? ⟨gb145, 0, none⟩ = some (.int .i64 t139) := (blk_cell BK145.out 0).trans rfl
                  have hcz34_1 : w23.cell? ⟨gb145, 1, none⟩ = some (.int .i64 t140) := (blk_cell BK145.out 1).trans rfl
                  have hcz34_2 : w23.cell? ⟨gb145, 2, none⟩ = some (.int .i64 t141) := (blk_cell BK145.out 2).trans rfl
                  have hcz34_3 : w23.cell? ⟨gb145, 3, none⟩ = some (.slice Ao21 y146.length co21) := (blk_cell BK145.out 3).trans rfl
                  have hfz34_0 := blk_frozen BK145.out 0
                  have hfz34_1 := blk_frozen BK145.out 1
                  have hfz34_2 := blk_frozen BK145.out 2
                  have hfz34_3 := blk_frozen BK145.out 3
                  go_wp2
                  go_meet
                  case rel => exact ⟨_, (5), (t139), (t140), (t140), (y146), (.slice Ao21 y146.length co21), (by first | rfl | (simp; done) | (simp [*]; done)), H', ⟨by first | omega | exact Nat.le_refl _⟩, ⟨by (with_reducible repeat (first | apply Kd.R_alloc | apply Kd.R_drewN | apply Kd.R_drew)); exact Kd.R_mono (Kd.R_far (p := ⟨gb145, 2, none⟩) (Kd.R_types HO148.out BK145.out (by decide)) (fun _ hk => hk.2) (.int .i64 t140)) (fun _ hk => trivial)⟩, ⟨by (with_reducible repeat (first | refine blk_drewN ?_ _ | refine blk_drew ?_ | refine blk_alloc ?_ _)); refine blk_put (cs := #[.int .i64 t139, .int .i64 t140, .int .i64 t141, .slice Ao21 y146.length co21]) ?_ 2 _ rfl; (with_reducible repeat (first | refine blk_drewN ?_ _ | refine blk_drew ?_ | refine blk_alloc ?_ _)); exact BK145.out⟩, ⟨by repeat (first | (with_reducible first | exact HB.out | apply below_alloc | apply pw_below_drewN | apply below_drew1 | refine below_set ?_ GE145.out) | exact HB.out)⟩⟩
                · rw [if_neg c33] at H
                  have c33b0 : (t150 == 4) = false := beq_eq_false_iff_ne.mpr c33
                  have c33b1 : (t150 != 4) = true := bne_iff_ne.mpr c33
                  by_cases c35 : t150 = 5
                  · rw [if_pos c35] at H
                    have c35b0 : (t150 == 5) = true := beq_iff_eq.mpr c35
                    have c35b1 : (t150 != 5) = false := bne_eq_false_iff_eq.mpr c35
                    clear c35
                    by_cases c36 : 0 ≤ t149
                    · rw [if_pos c36] at H
                      have c36b0 : decide (0 ≤ t149) = true := decide_eq_true c36
                      clear c36
                      by_cases c37 : t149 < (y146.length : Int)
                      · rw [if_pos c37] at H
                        have c37b0 : decide (t149 < (y146.length : Int)) = true := decide_eq_true c37
                        clear c37
                        obtain ⟨y151, hy151⟩ : ∃ y_ : List (S28), y_ = (y146.set (t149 : Int).toNat (⟨0, (rd_T28 y146 t149).f1, (rd_T28 y146 t149).f2⟩ : S28)) := ⟨_, rfl⟩
                        replace H : (racewaylaw3_NetOrder.j0 k 4 t139 t140 t141 (y151.set (t149 : Int).toNat (⟨(rd_T28 y151 t149).f0, (rd_T28 y151 t149).f1, (-1)⟩ : S28))) = some r := by first | (rw [hy151]; with_reducible exact H) | (have H2_ := (Option.bind_some _ _).symm.trans H; rw [hy151]; with_reducible exact H2_) | (have H2_ := (Option.bind_some _ _).symm.trans H; with_reducible exact H2_) | with_reducible exact H | (rw [hy151]; exact H) | exact H
                        have Ny151 := Aside0.mk hy151
                        clear hy151
                        obtain ⟨y152, hy152⟩ : ∃ y_ : List (S28), y_ = (y151.set (t149 : Int).toNat (⟨(rd_T28 y151 t149).f0, (rd_T28 y151 t149).f1, (-1)⟩ : S28)) := ⟨_, rfl⟩
                        replace H : (racewaylaw3_NetOrder.j0 k 4 t139 t140 t141 y152) = some r := by first | (rw [hy152]; with_reducible exact H) | (have H2_ := (Option.bind_some _ _).symm.trans H; rw [hy152]; with_reducible exact H2_) | (have H2_ := (Option.bind_some _ _).symm.trans H; with_reducible exact H2_) | with_reducible exact H | (rw [hy152]; exact H) | exact H
                        have Ny152 := Aside0.mk hy152
                        clear hy152
                        have H' := Aside0.mk H
                        clear H
                        have hcz40_0 : w23.cell? ⟨gb145, 0, none⟩ = some (.int .i64 t139) := (blk_cell BK145.out 0).trans rfl
                        have hcz40_1 : w23.cell? ⟨gb145, 1, none⟩ = some (.int .i64 t140) := (blk_cell BK145.out 1).trans rfl
                        have hcz40_2 : w23.cell? ⟨gb145, 2, none⟩ = some (.int .i64 t141) := (blk_cell BK145.out 2).trans rfl
                        have hcz40_3 : w23.cell? ⟨gb145, 3, none⟩ = some (.slice Ao21 y146.length co21) := (blk_cell BK145.out 3).trans rfl
                        have hfz40_0 := blk_frozen BK145.out 0
                        have hfz40_1 := blk_frozen BK145.out 1
                        have hfz40_2 := blk_frozen BK145.out 2
                        have hfz40_3 := blk_frozen BK145.out 3
                        have p38 : 0 ≤ (t149 : Int) := of_decide_eq_true (by first | (with_reducible assumption) | assumption)
                        have q38 : (t149 : Int) < ((y146.length : Int) : Int) := of_decide_eq_true (by first | (with_reducible assumption) | assumption)
                        obtain ⟨go38, co38, eo38, gb38, gl38, cl38, HG38⟩ := Kd.R_form HO148.out (by omega)
                        (first | cases eo38 | (injection eo38 with ea_ en_ ec_; (first | subst ea_ | (injection ea_ with ea_; subst ea_)); subst ec_; clear en_))
                        have GB38 := Aside0.mk gb38
                        have GG38 := Aside0.mk HG38
                        clear gb38 gl38 HG38
                        obtain ⟨ce38, hcl38, hM38, hcc38, hfr38⟩ := Kd.R_elem HO148.out z28 (t149 : Int) p38 q38
                        obtain rfl := k28_openM hM38
                        have hx38_0 : w23.cell? ⟨go38, (t149 : Int).toNat * 3, none⟩ = some (.int .i64 ((rd_T28 y146 t149).f0)) := hcc38 0 _ rfl
                        have hx38_1 : w23.cell? ⟨go38, (t149 : Int).toNat * 3 + 1, none⟩ = some (.int .i64 ((rd_T28 y146 t149).f1)) := hcc38 1 _ rfl
                        have hx38_2 : w23.cell? ⟨go38, (t149 : Int).toNat * 3 + 2, none⟩ = some (.int .i64 ((rd_T28 y146 t149).f2)) := hcc38 2 _ rfl
                        have hf38_0 : w23.frozen? ⟨go38, (t149 : Int).toNat * 3, none⟩ = false := hfr38 0
                        have hf38_1 : w23.frozen? ⟨go38, (t149 : Int).toNat * 3 + 1, none⟩ = false := hfr38 1
                        have hf38_2 : w23.frozen? ⟨go38, (t149 : Int).toNat * 3 + 2, none⟩ = false := hfr38 2
                        clear hcl38 hcc38 hfr38 hM38
                        replace p38 := eq_true p38
                        replace q38 := eq_true q38
                        have HX41 := Aside0.mk (show Kd.R k28 28 w23 w.heap.size (fun _ => True) (.slice (some ⟨go38, 0, none⟩) y146.length co21) y146 from (by (with_reducible repeat (first | apply Kd.R_alloc | apply Kd.R_drewN | apply Kd.R_drew)); exact HO148.out))
                        obtain ⟨ce41, hcl41, hM41, hcc41, hfr41⟩ := Kd.R_elem HX41.out z28 (t149 : Int) (of_decide_eq_true (by first | (with_reducible assumption) | assumption)) (by have h_ : (t149 : Int) < ((y146.length : Int) : Int) := of_decide_eq_true (by first | (with_reducible assumption) | assumption); first | exact h_ | (have e_ := (Kd.R_reads' HO148.out).1; omega) | simpa using h_)
                        obtain rfl := k28_openM hM41
                        have HP41 := Kd.R_seg HX41.out (t149 : Int) (of_decide_eq_true (by first | (with_reducible assumption) | assumption)) (by have h_ : (t149 : Int) < ((y146.length : Int) : Int) := of_decide_eq_true (by first | (with_reducible assumption) | assumption); first | exact h_ | (have e_ := (Kd.R_reads' HO148.out).1; omega) | simpa using h_) (seg := [.int .i64 0]) (j := 0) hcl41 hcc41 (show 1 ≤ 3 from by decide) (x' := (⟨0, (rd_T28 y146 t149).f1, (rd_T28 y146 t149).f2⟩ : S28)) (k28_mkM _ _ _ (⟨0, (rd_T28 y146 t149).f1, (rd_T28 y146 t149).f2⟩ : S28) ) (fun _ hk => hk)
                        have hx41_0 := hcc41 0 _ rfl
                        (try simp only [show (k28).sz = 3 from rfl, Nat.mul_one, Nat.add_zero] at hx41_0)
                        have hf41_0 := hfr41 0
                        (try simp only [show (k28).sz = 3 from rfl, Nat.mul_one, Nat.add_zero] at hf41_0)
                        clear hcl41 hcc41 hfr41 hM41
                        go_wp2_with (first | ((with_reducible refine gate_store (t := 3) (p := 66) rfl ?_); refine store_event (t := 3) (p := 66) (v := ?vo_w42) (w1 := (w23.setCell ⟨go38, (t149 : Int).toNat * 3, none⟩ (.int .i64 0))) ?hg ?ho ?hn ?hr ?_; (case ho => rfl); (case hg => rfl); (case hn => rfl); (case hr => first | (go_simp; done) | (go_simp; rfl)); intro w42 hw; have hg : w23.grownBy w42 (some go38) := (by rw [hw]; exact HP41.2); have hp_ : Kd.R k28 28 w42 w.heap.size (fun _ => True) (.slice (some ⟨go38, 0, none⟩) y146.length co21) y151 := (by rw [hw, Ny151.out]; exact HP41.1); clear HP41; have n0_ := Aside0.mk (blk_grown (g := gb145) (o := .cells #[.int .i64 t139, .int .i64 t140, .int .i64 t141, .slice (some ⟨go38, 0, none⟩) y146.length co21] 26 (0, 0)) (by (with_reducible repeat (first | refine blk_drewN ?_ _ | refine blk_drew ?_ | refine blk_alloc ?_ _)); exact BK145.out) hg (Kd.R_ne HO148.out BK145.out (by decide))); have n1_ := Aside0.mk (hp_); have n2_ := Aside0.mk ((by rw [hw]; exact below_set (HB.out) GB38.out : Below w.heap.size w w42)); clear BK145; clear HO148; clear HB; have BK145 := n0_; have HO148 := n1_; have HB := n2_; clear n0_ n1_ n2_; clear hg hw hp_; have hcz43_0 : w42.cell? ⟨gb145, 0, none⟩ = some (.int .i64 t139) := (blk_cell BK145.out 0).trans rfl; have hcz43_1 : w42.cell? ⟨gb145, 1, none⟩ = some (.int .i64 t140) := (blk_cell BK145.out 1).trans rfl; have hcz43_2 : w42.cell? ⟨gb145, 2, none⟩ = some (.int .i64 t141) := (blk_cell BK145.out 2).trans rfl; have hcz43_3 : w42.cell? ⟨gb145, 3, none⟩ = some (.slice (some ⟨go38, 0, none⟩) y146.length co21) := (blk_cell BK145.out 3).trans rfl; have hfz43_0 := blk_frozen BK145.out 0; have hfz43_1 := blk_frozen BK145.out 1; have hfz43_2 := blk_frozen BK145.out 2; have hfz43_3 := blk_frozen BK145.out 3; have p39 : 0 ≤ (t149 : Int) := of_decide_eq_true (by first | (with_reducible assumption) | assumption); have q39 : (t149 : Int) < ((y146.length : Int) : Int) := of_decide_eq_true (by first | (with_reducible assumption) | assumption); obtain ⟨ce39, hcl39, hM39, hcc39, hfr39⟩ := Kd.R_elem HO148.out z28 (t149 : Int) p39 q39; obtain rfl := k28_openM hM39; have hx39_0 : w42.cell? ⟨go38, (t149 : Int).toNat * 3, none⟩ = some (.int .i64 ((rd_T28 y151 t149).f0)) := hcc39 0 _ rfl; have hx39_1 : w42.cell? ⟨go38, (t149 : Int).toNat * 3 + 1, none⟩ = some (.int .i64 ((rd_T28 y151 t149).f1)) := hcc39 1 _ rfl; have hx39_2 : w42.cell? ⟨go38, (t149 : Int).toNat * 3 + 2, none⟩ = some (.int .i64 ((rd_T28 y151 t149).f2)) := hcc39 2 _ rfl; have hf39_0 : w42.frozen? ⟨go38, (t149 : Int).toNat * 3, none⟩ = false := hfr39 0; have hf39_1 : w42.frozen? ⟨go38, (t149 : Int).toNat * 3 + 1, none⟩ = false := hfr39 1; have hf39_2 : w42.frozen? ⟨go38, (t149 : Int).toNat * 3 + 2, none⟩ = false := hfr39 2; clear hcl39 hcc39 hfr39 hM39; replace p39 := eq_true p39; replace q39 := eq_true q39; have HX44 := Aside0.mk (show Kd.R k28 28 w42 w.heap.size (fun _ => True) (.slice (some ⟨go38, 0, none⟩) y146.length co21) y151 from (by (with_reducible repeat (first | apply Kd.R_alloc | apply Kd.R_drewN | apply Kd.R_drew)); exact HO148.out)); obtain ⟨ce44, hcl44, hM44, hcc44, hfr44⟩ := Kd.R_elem HX44.out z28 (t149 : Int) (of_decide_eq_true (by first | (with_reducible assumption) | assumption)) (by have h_ : (t149 : Int) < ((y146.length : Int) : Int) := of_decide_eq_true (by first | (with_reducible assumption) | assumption); first | exact h_ | (have e_ := (Kd.R_reads' HO148.out).1; omega) | simpa using h_); obtain rfl := k28_openM hM44; have HP44 := Kd.R_seg HX44.out (t149 : Int) (of_decide_eq_true (by first | (with_reducible assumption) | assumption)) (by have h_ : (t149 : Int) < ((y146.length : Int) : Int) := of_decide_eq_true (by first | (with_reducible assumption) | assumption); first | exact h_ | (have e_ := (Kd.R_reads' HO148.out).1; omega) | simpa using h_) (seg := [.int .i64 (-1)]) (j := 2) hcl44 hcc44 (show 3 ≤ 3 from by decide) (x' := (⟨(rd_T28 y151 t149).f0, (rd_T28 y151 t149).f1, (-1)⟩ : S28)) (k28_mkM _ _ _ (⟨(rd_T28 y151 t149).f0, (rd_T28 y151 t149).f1, (-1)⟩ : S28) ) (fun _ hk => hk); have hx44_2 := hcc44 2 _ rfl; (try simp only [show (k28).sz = 3 from rfl, Nat.mul_one, Nat.add_zero] at hx44_2); have hf44_2 := hfr44 2; (try simp only [show (k28).sz = 3 from rfl, Nat.mul_one, Nat.add_zero] at hf44_2); clear hcl44 hcc44 hfr44 hM44) | ((with_reducible refine gate_store (t := 2) (p := 71) rfl ?_); refine store_event (t := 2) (p := 71) (v := ?vo_w45) (w1 := (w42.setCell ⟨go38, (t149 : Int).toNat * 3 + 2, none⟩ (.int .i64 (-1)))) ?hg ?ho ?hn ?hr ?_; (case ho => rfl); (case hg => rfl); (case hn => rfl); (case hr => first | (go_simp; done) | (go_simp; rfl)); intro w45 hw; have hg : w42.grownBy w45 (some go38) := (by rw [hw]; exact HP44.2); have hp_ : Kd.R k28 28 w45 w.heap.size (fun _ => True) (.slice (some ⟨go38, 0, none⟩) y146.length co21) y152 := (by rw [hw, Ny152.out]; exact HP44.1); clear HP44; have n0_ := Aside0.mk (blk_grown (g := gb145) (o := .cells #[.int .i64 t139, .int .i64 t140, .int .i64 t141, .slice (some ⟨go38, 0, none⟩) y146.length co21] 26 (0, 0)) (by (with_reducible repeat (first | refine blk_drewN ?_ _ | refine blk_drew ?_ | refine blk_alloc ?_ _)); exact BK145.out) hg (Kd.R_ne HO148.out BK145.out (by decide))); have n1_ := Aside0.mk (hp_); have n2_ := Aside0.mk ((by rw [hw]; exact below_set (HB.out) GB38.out : Below w.heap.size w w45)); clear BK145; clear HO148; clear HB; have BK145 := n0_; have HO148 := n1_; have HB := n2_; clear n0_ n1_ n2_; clear hg hw hp_))
                        go_meet
                        case rel => exact ⟨_, (4), (t139), (t140), (t141), (y152), (.slice (some ⟨go38, 0, none⟩) y146.length co21), (by first | rfl | (simp; done) | (simp [*]; done)), H', ⟨by first | omega | exact Nat.le_refl _⟩, ⟨by (with_reducible repeat (first | apply Kd.R_alloc | apply Kd.R_drewN | apply Kd.R_drew)); exact HO148.out⟩, ⟨by (with_reducible repeat (first | refine blk_drewN ?_ _ | refine blk_drew ?_ | refine blk_alloc ?_ _)); exact BK145.out⟩, ⟨by repeat (first | (with_reducible first | exact HB.out | apply below_alloc | apply pw_below_drewN | apply below_drew1 | refine below_set ?_ GE145.out) | exact HB.out)⟩⟩
                      · rw [if_neg c37] at H
                        exact absurd H (by simp)
                    · rw [if_neg c36] at H
                      exact absurd H (by simp)
                  · rw [if_neg c35] at H
                    have c35b0 : (t150 == 5) = false := beq_eq_false_iff_ne.mpr c35
                    have c35b1 : (t150 != 5) = true := bne_iff_ne.mpr c35
                    by_cases c46 : t150 = 6
                    · rw [if_pos c46] at H
                      have c46b0 : (t150 == 6) = true := beq_iff_eq.mpr c46
                      have c46b1 : (t150 != 6) = false := bne_eq_false_iff_eq.mpr c46
                      clear c46
                      by_cases c47 : 0 ≤ t149
                      · rw [if_pos c47] at H
                        have c47b0 : decide (0 ≤ t149) = true := decide_eq_true c47
                        clear c47
                        by_cases c48 : t149 < (y146.length : Int)
                        · rw [if_pos c48] at H
                          have c48b0 : decide (t149 < (y146.length : Int)) = true := decide_eq_true c48
                          clear c48
                          obtain ⟨y153, hy153⟩ : ∃ y_ : List (S28), y_ = (y146.set (t149 : Int).toNat (⟨(rd_T28 y146 t149).f0, wrap64 (t139 + 1), (rd_T28 y146 t149).f2⟩ : S28)) := ⟨_, rfl⟩
                          replace H : (racewaylaw3_NetOrder.j0 k 4 t139 t140 t141 y153) = some r := by first | (rw [hy153]; with_reducible exact H) | (have H2_ := (Option.bind_some _ _).symm.trans H; rw [hy153]; with_reducible exact H2_) | (have H2_ := (Option.bind_some _ _).symm.trans H; with_reducible exact H2_) | with_reducible exact H | (rw [hy153]; exact H) | exact H
                          have Ny153 := Aside0.mk hy153
                          clear hy153
                          have H' := Aside0.mk H
                          clear H
                          have hcz50_0 : w23.cell? ⟨gb145, 0, none⟩ = some (.int .i64 t139) := (blk_cell BK145.out 0).trans rfl
                          have hcz50_1 : w23.cell? ⟨gb145, 1, none⟩ = some (.int .i64 t140) := (blk_cell BK145.out 1).trans rfl
                          have hcz50_2 : w23.cell? ⟨gb145, 2, none⟩ = some (.int .i64 t141) := (blk_cell BK145.out 2).trans rfl
                          have hcz50_3 : w23.cell? ⟨gb145, 3, none⟩ = some (.slice Ao21 y146.length co21) := (blk_cell BK145.out 3).trans rfl
                          have hfz50_0 := blk_frozen BK145.out 0
                          have hfz50_1 := blk_frozen BK145.out 1
                          have hfz50_2 := blk_frozen BK145.out 2
                          have hfz50_3 := blk_frozen BK145.out 3
                          have p49 : 0 ≤ (t149 : Int) := of_decide_eq_true (by first | (with_reducible assumption) | assumption)
                          have q49 : (t149 : Int) < ((y146.length : Int) : Int) := of_decide_eq_true (by first | (with_reducible assumption) | assumption)
                          obtain ⟨go49, co49, eo49, gb49, gl49, cl49, HG49⟩ := Kd.R_form HO148.out (by omega)
                          (first | cases eo49 | (injection eo49 with ea_ en_ ec_; (first | subst ea_ | (injection ea_ with ea_; subst ea_)); subst ec_; clear en_))
                          have GB49 := Aside0.mk gb49
                          have GG49 := Aside0.mk HG49
                          clear gb49 gl49 HG49
                          obtain ⟨ce49, hcl49, hM49, hcc49, hfr49⟩ := Kd.R_elem HO148.out z28 (t149 : Int) p49 q49
                          obtain rfl := k28_openM hM49
                          have hx49_0 : w23.cell? ⟨go49, (t149 : Int).toNat * 3, none⟩ = some (.int .i64 ((rd_T28 y146 t149).f0)) := hcc49 0 _ rfl
                          have hx49_1 : w23.cell? ⟨go49, (t149 : Int).toNat * 3 + 1, none⟩ = some (.int .i64 ((rd_T28 y146 t149).f1)) := hcc49 1 _ rfl
                          have hx49_2 : w23.cell? ⟨go49, (t149 : Int).toNat * 3 + 2, none⟩ = some (.int .i64 ((rd_T28 y146 t149).f2)) := hcc49 2 _ rfl
                          have hf49_0 : w23.frozen? ⟨go49, (t149 : Int).toNat * 3, none⟩ = false := hfr49 0
                          have hf49_1 : w23.frozen? ⟨go49, (t149 : Int).toNat * 3 + 1, none⟩ = false := hfr49 1
                          have hf49_2 : w23.frozen? ⟨go49, (t149 : Int).toNat * 3 + 2, none⟩ = false := hfr49 2
                          clear hcl49 hcc49 hfr49 hM49
                          replace p49 := eq_true p49
                          replace q49 := eq_true q49
                          have HX51 := Aside0.mk (show Kd.R k28 28 w23 w.heap.size (fun _ => True) (.slice (some ⟨go49, 0, none⟩) y146.length co21) y146 from (by (with_reducible repeat (first | apply Kd.R_alloc | apply Kd.R_drewN | apply Kd.R_drew)); exact HO148.out))
                          obtain ⟨ce51, hcl51, hM51, hcc51, hfr51⟩ := Kd.R_elem HX51.out z28 (t149 : Int) (of_decide_eq_true (by first | (with_reducible assumption) | assumption)) (by have h_ : (t149 : Int) < ((y146.length : Int) : Int) := of_decide_eq_true (by first | (with_reducible assumption) | assumption); first | exact h_ | (have e_ := (Kd.R_reads' HO148.out).1; omega) | simpa using h_)
                          obtain rfl := k28_openM hM51
                          have HP51 := Kd.R_seg HX51.out (t149 : Int) (of_decide_eq_true (by first | (with_reducible assumption) | assumption)) (by have h_ : (t149 : Int) < ((y146.length : Int) : Int) := of_decide_eq_true (by first | (with_reducible assumption) | assumption); first | exact h_ | (have e_ := (Kd.R_reads' HO148.out).1; omega) | simpa using h_) (seg := [.int .i64 (wrap64 (t139 + 1))]) (j := 1) hcl51 hcc51 (show 2 ≤ 3 from by decide) (x' := (⟨(rd_T28 y146 t149).f0, wrap64 (t139 + 1), (rd_T28 y146 t149).f2⟩ : S28)) (k28_mkM _ _ _ (⟨(rd_T28 y146 t149).f0, wrap64 (t139 + 1), (rd_T28 y146 t149).f2⟩ : S28) ) (fun _ hk => hk)
                          have hx51_1 := hcc51 1 _ rfl
                          (try simp only [show (k28).sz = 3 from rfl, Nat.mul_one, Nat.add_zero] at hx51_1)
                          have hf51_1 := hfr51 1
                          (try simp only [show (k28).sz = 3 from rfl, Nat.mul_one, Nat.add_zero] at hf51_1)
                          clear hcl51 hcc51 hfr51 hM51
                          go_wp2_with (first | ((with_reducible refine gate_store (t := 3) (p := 81) rfl ?_); refine store_event (t := 3) (p := 81) (v := ?vo_w52) (w1 := (w23.setCell ⟨go49, (t149 : Int).toNat * 3 + 1, none⟩ (.int .i64 (wrap64 (t139 + 1))))) ?hg ?ho ?hn ?hr ?_; (case ho => rfl); (case hg => rfl); (case hn => rfl); (case hr => first | (go_simp; done) | (go_simp; rfl)); intro w52 hw; have hg : w23.grownBy w52 (some go49) := (by rw [hw]; exact HP51.2); have hp_ : Kd.R k28 28 w52 w.heap.size (fun _ => True) (.slice (some ⟨go49, 0, none⟩) y146.length co21) y153 := (by rw [hw, Ny153.out]; exact HP51.1); clear HP51; have n0_ := Aside0.mk (blk_grown (g := gb145) (o := .cells #[.int .i64 t139, .int .i64 t140, .int .i64 t141, .slice (some ⟨go49, 0, none⟩) y146.length co21] 26 (0, 0)) (by (with_reducible repeat (first | refine blk_drewN ?_ _ | refine blk_drew ?_ | refine blk_alloc ?_ _)); exact BK145.out) hg (Kd.R_ne HO148.out BK145.out (by decide))); have n1_ := Aside0.mk (hp_); have n2_ := Aside0.mk ((by rw [hw]; exact below_set (HB.out) GB49.out : Below w.heap.size w w52)); clear BK145; clear HO148; clear HB; have BK145 := n0_; have HO148 := n1_; have HB := n2_; clear n0_ n1_ n2_; clear hg hw hp_))
                          go_meet
                          case rel => exact ⟨_, (4), (t139), (t140), (t141), (y153), (.slice (some ⟨go49, 0, none⟩) y146.length co21), (by first | rfl | (simp; done) | (simp [*]; done)), H', ⟨by first | omega | exact Nat.le_refl _⟩, ⟨by (with_reducible repeat (first | apply Kd.R_alloc | apply Kd.R_drewN | apply Kd.R_drew)); exact HO148.out⟩, ⟨by (with_reducible repeat (first | refine blk_drewN ?_ _ | refine blk_drew ?_ | refine blk_alloc ?_ _)); exact BK145.out⟩, ⟨by repeat (first | (with_reducible first | exact HB.out | apply below_alloc | apply pw_below_drewN | apply below_drew1 | refine below_set ?_ GE145.out) | exact HB.out)⟩⟩
                        · rw [if_neg c48] at H
                          exact absurd H (by simp)
                      · rw [if_neg c47] at H
                        exact absurd H (by simp)
                    · rw [if_neg c46] at H
                      have c46b0 : (t150 == 6) = false := beq_eq_false_iff_ne.mpr c46
                      have c46b1 : (t150 != 6) = true := bne_iff_ne.mpr c46
                      by_cases c53 : t150 = 7
                      · rw [if_pos c53] at H
                        have c53b0 : (t150 == 7) = true := beq_iff_eq.mpr c53
                        have c53b1 : (t150 != 7) = false := bne_eq_false_iff_eq.mpr c53
                        clear c53
                        by_cases c54 : 0 ≤ t149
                        · rw [if_pos c54] at H
                          have c54b0 : decide (0 ≤ t149) = true := decide_eq_true c54
                          clear c54
                          by_cases c55 : t149 < (y146.length : Int)
                          · rw [if_pos c55] at H
                            have c55b0 : decide (t149 < (y146.length : Int)) = true := decide_eq_true c55
                            clear c55
                            obtain ⟨y154, hy154⟩ : ∃ y_ : List (S28), y_ = (y146.set (t149 : Int).toNat (⟨(rd_T28 y146 t149).f0, (rd_T28 y146 t149).f1, (-1)⟩ : S28)) := ⟨_, rfl⟩
                            replace H : (racewaylaw3_NetOrder.j0 k 3 t139 t140 t141 y154) = some r := by first | (rw [hy154]; with_reducible exact H) | (have H2_ := (Option.bind_some _ _).symm.trans H; rw [hy154]; with_reducible exact H2_) | (have H2_ := (Option.bind_some _ _).symm.trans H; with_reducible exact H2_) | with_reducible exact H | (rw [hy154]; exact H) | exact H
                            have Ny154 := Aside0.mk hy154
                            clear hy154
                            have H' := Aside0.mk H
                            clear H
                            have hcz57_0 : w23.cell? ⟨gb145, 0, none⟩ = some (.int .i64 t139) := (blk_cell BK145.out 0).trans rfl
                            have hcz57_1 : w23.cell? ⟨gb145, 1, none⟩ = some (.int .i64 t140) := (blk_cell BK145.out 1).trans rfl
                            have hcz57_2 : w23.cell? ⟨gb145, 2, none⟩ = some (.int .i64 t141) := (blk_cell BK145.out 2).trans rfl
                            have hcz57_3 : w23.cell? ⟨gb145, 3, none⟩ = some (.slice Ao21 y146.length co21) := (blk_cell BK145.out 3).trans rfl
                            have hfz57_0 := blk_frozen BK145.out 0
                            have hfz57_1 := blk_frozen BK145.out 1
                            have hfz57_2 := blk_frozen BK145.out 2
                            have hfz57_3 := blk_frozen BK145.out 3
                            have p56 : 0 ≤ (t149 : Int) := of_decide_eq_true (by first | (with_reducible assumption) | assumption)
                            have q56 : (t149 : Int) < ((y146.length : Int) : Int) := of_decide_eq_true (by first | (with_reducible assumption) | assumption)
                            obtain ⟨go56, co56, eo56, gb56, gl56, cl56, HG56⟩ := Kd.R_form HO148.out (by omega)
                            (first | cases eo56 | (injection eo56 with ea_ en_ ec_; (first | subst ea_ | (injection ea_ with ea_; subst ea_)); subst ec_; clear en_))
                            have GB56 := Aside0.mk gb56
                            have GG56 := Aside0.mk HG56
                            clear gb56 gl56 HG56
                            obtain ⟨ce56, hcl56, hM56, hcc56, hfr56⟩ := Kd.R_elem HO148.out z28 (t149 : Int) p56 q56
                            obtain rfl := k28_openM hM56
                            have hx56_0 : w23.cell? ⟨go56, (t149 : Int).toNat * 3, none⟩ = some (.int .i64 ((rd_T28 y146 t149).f0)) := hcc56 0 _ rfl
                            have hx56_1 : w23.cell? ⟨go56, (t149 : Int).toNat * 3 + 1, none⟩ = some (.int .i64 ((rd_T28 y146 t149).f1)) := hcc56 1 _ rfl
                            have hx56_2 : w23.cell? ⟨go56, (t149 : Int).toNat * 3 + 2, none⟩ = some (.int .i64 ((rd_T28 y146 t149).f2)) := hcc56 2 _ rfl
                            have hf56_0 : w23.frozen? ⟨go56, (t149 : Int).toNat * 3, none⟩ = false := hfr56 0
                            have hf56_1 : w23.frozen? ⟨go56, (t149 : Int).toNat * 3 + 1, none⟩ = false := hfr56 1
                            have hf56_2 : w23.frozen? ⟨go56, (t149 : Int).toNat * 3 + 2, none⟩ = false := hfr56 2
                            clear hcl56 hcc56 hfr56 hM56
                            replace p56 := eq_true p56
                            replace q56 := eq_true q56
                            have HX58 := Aside0.mk (show Kd.R k28 28 w23 w.heap.size (fun _ => True) (.slice (some ⟨go56, 0, none⟩) y146.length co21) y146 from (by (with_reducible repeat (first | apply Kd.R_alloc | apply Kd.R_drewN | apply Kd.R_drew)); exact HO148.out))
                            obtain ⟨ce58, hcl58, hM58, hcc58, hfr58⟩ := Kd.R_elem HX58.out z28 (t149 : Int) (of_decide_eq_true (by first | (with_reducible assumption) | assumption)) (by have h_ : (t149 : Int) < ((y146.length : Int) : Int) := of_decide_eq_true (by first | (with_reducible assumption) | assumption); first | exact h_ | (have e_ := (Kd.R_reads' HO148.out).1; omega) | simpa using h_)
                            obtain rfl := k28_openM hM58
                            have HP58 := Kd.R_seg HX58.out (t149 : Int) (of_decide_eq_true (by first | (with_reducible assumption) | assumption)) (by have h_ : (t149 : Int) < ((y146.length : Int) : Int) := of_decide_eq_true (by first | (with_reducible assumption) | assumption); first | exact h_ | (have e_ := (Kd.R_reads' HO148.out).1; omega) | simpa using h_) (seg := [.int .i64 (-1)]) (j := 2) hcl58 hcc58 (show 3 ≤ 3 from by decide) (x' := (⟨(rd_T28 y146 t149).f0, (rd_T28 y146 t149).f1, (-1)⟩ : S28)) (k28_mkM _ _ _ (⟨(rd_T28 y146 t149).f0, (rd_T28 y146 t149).f1, (-1)⟩ : S28) ) (fun _ hk => hk)
                            have hx58_2 := hcc58 2 _ rfl
                            (try simp only [show (k28).sz = 3 from rfl, Nat.mul_one, Nat.add_zero] at hx58_2)
                            have hf58_2 := hfr58 2
                            (try simp only [show (k28).sz = 3 from rfl, Nat.mul_one, Nat.add_zero] at hf58_2)
                            clear hcl58 hcc58 hfr58 hM58
                            go_wp2_with (first | ((with_reducible refine gate_store (t := 2) (p := 88) rfl ?_); refine store_event (t := 2) (p := 88) (v := ?vo_w59) (w1 := (w23.setCell ⟨go56, (t149 : Int).toNat * 3 + 2, none⟩ (.int .i64 (-1)))) ?hg ?ho ?hn ?hr ?_; (case ho => rfl); (case hg => rfl); (case hn => rfl); (case hr => first | (go_simp; done) | (go_simp; rfl)); intro w59 hw; have hg : w23.grownBy w59 (some go56) := (by rw [hw]; exact HP58.2); have hp_ : Kd.R k28 28 w59 w.heap.size (fun _ => True) (.slice (some ⟨go56, 0, none⟩) y146.length co21) y154 := (by rw [hw, Ny154.out]; exact HP58.1); clear HP58; have n0_ := Aside0.mk (blk_grown (g := gb145) (o := .cells #[.int .i64 t139, .int .i64 t140, .int .i64 t141, .slice (some ⟨go56, 0, none⟩) y146.length co21] 26 (0, 0)) (by (with_reducible repeat (first | refine blk_drewN ?_ _ | refine blk_drew ?_ | refine blk_alloc ?_ _)); exact BK145.out) hg (Kd.R_ne HO148.out BK145.out (by decide))); have n1_ := Aside0.mk (hp_); have n2_ := Aside0.mk ((by rw [hw]; exact below_set (HB.out) GB56.out : Below w.heap.size w w59)); clear BK145; clear HO148; clear HB; have BK145 := n0_; have HO148 := n1_; have HB := n2_; clear n0_ n1_ n2_; clear hg hw hp_))
                            go_meet
                            case rel => exact ⟨_, (3), (t139), (t140), (t141), (y154), (.slice (some ⟨go56, 0, none⟩) y146.length co21), (by first | rfl | (simp; done) | (simp [*]; done)), H', ⟨by first | omega | exact Nat.le_refl _⟩, ⟨by (with_reducible repeat (first | apply Kd.R_alloc | apply Kd.R_drewN | apply Kd.R_drew)); exact HO148.out⟩, ⟨by (with_reducible repeat (first | refine blk_drewN ?_ _ | refine blk_drew ?_ | refine blk_alloc ?_ _)); exact BK145.out⟩, ⟨by repeat (first | (with_reducible first | exact HB.out | apply below_alloc | apply pw_below_drewN | apply below_drew1 | refine below_set ?_ GE145.out) | exact HB.out)⟩⟩
                          · rw [if_neg c55] at H
                            exact absurd H (by simp)
                        · rw [if_neg c54] at H
                          exact absurd H (by simp)
                      · rw [if_neg c53] at H
                        have c53b0 : (t150 == 7) = false := beq_eq_false_iff_ne.mpr c53
                        have c53b1 : (t150 != 7) = true := bne_iff_ne.mpr c53
                        by_cases c60 : 0 ≤ t149
                        · rw [if_pos c60] at H
                          have c60b0 : decide (0 ≤ t149) = true := decide_eq_true c60
                          clear c60
                          by_cases c61 : t149 < (y146.length : Int)
                          · rw [if_pos c61] at H
                            have c61b0 : decide (t149 < (y146.length : Int)) = true := decide_eq_true c61
                            clear c61
                            obtain ⟨y155, hy155⟩ : ∃ y_ : List (S28), y_ = (y146.set (t149 : Int).toNat (⟨(rd_T28 y146 t149).f0, (rd_T28 y146 t149).f1, 4611686018427387904⟩ : S28)) := ⟨_, rfl⟩
                            replace H : (racewaylaw3_NetOrder.j0 k 7 t139 t140 t141 y155) = some r := by first | (rw [hy155]; with_reducible exact H) | (have H2_ := (Option.bind_some _ _).symm.trans H; rw [hy155]; with_reducible exact H2_) | (have H2_ := (Option.bind_some _ _).symm.trans H; with_reducible exact H2_) | with_reducible exact H | (rw [hy155]; exact H) | exact H
                            have Ny155 := Aside0.mk hy155
                            clear hy155
                            have H' := Aside0.mk H
                            clear H
                            have hcz63_0 : w23.cell? ⟨gb145, 0, none⟩ = some (.int .i64 t139) := (blk_cell BK145.out 0).trans rfl
                            have hcz63_1 : w23.cell? ⟨gb145, 1, none⟩ = some (.int .i64 t140) := (blk_cell BK145.out 1).trans rfl
                            have hcz63_2 : w23.cell? ⟨gb145, 2, none⟩ = some (.int .i64 t141) := (blk_cell BK145.out 2).trans rfl
                            have hcz63_3 : w23.cell? ⟨gb145, 3, none⟩ = some (.slice Ao21 y146.length co21) := (blk_cell BK145.out 3).trans rfl
                            have hfz63_0 := blk_frozen BK145.out 0
                            have hfz63_1 := blk_frozen BK145.out 1
                            have hfz63_2 := blk_frozen BK145.out 2
                            have hfz63_3 := blk_frozen BK145.out 3
                            have p62 : 0 ≤ (t149 : Int) := of_decide_eq_true (by first | (with_reducible assumption) | assumption)
                            have q62 : (t149 : Int) < ((y146.length : Int) : Int) := of_decide_eq_true (by first | (with_reducible assumption) | assumption)
                            obtain ⟨go62, co62, eo62, gb62, gl62, cl62, HG62⟩ := Kd.R_form HO148.out (by omega)
                            (first | cases eo62 | (injection eo62 with ea_ en_ ec_; (first | subst ea_ | (injection ea_ with ea_; subst ea_)); subst ec_; clear en_))
                            have GB62 := Aside0.mk gb62
                            have GG62 := Aside0.mk HG62
                            clear gb62 gl62 HG62
                            obtain ⟨ce62, hcl62, hM62, hcc62, hfr62⟩ := Kd.R_elem HO148.out z28 (t149 : Int) p62 q62
                            obtain rfl := k28_openM hM62
                            have hx62_0 : w23.cell? ⟨go62, (t149 : Int).toNat * 3, none⟩ = some (.int .i64 ((rd_T28 y146 t149).f0)) := hcc62 0 _ rfl
                            have hx62_1 : w23.cell? ⟨go62, (t149 : Int).toNat * 3 + 1, none⟩ = some (.int .i64 ((rd_T28 y146 t149).f1)) := hcc62 1 _ rfl
                            have hx62_2 : w23.cell? ⟨go62, (t149 : Int).toNat * 3 + 2, none⟩ = some (.int .i64 ((rd_T28 y146 t149).f2)) := hcc62 2 _ rfl
                            have hf62_0 : w23.frozen? ⟨go62, (t149 : Int).toNat * 3, none⟩ = false := hfr62 0
                            have hf62_1 : w23.frozen? ⟨go62, (t149 : Int).toNat * 3 + 1, none⟩ = false := hfr62 1
                            have hf62_2 : w23.frozen? ⟨go62, (t149 : Int).toNat * 3 + 2, none⟩ = false := hfr62 2
                            clear hcl62 hcc62 hfr62 hM62
                            replace p62 := eq_true p62
                            replace q62 := eq_true q62
                            have HX64 := Aside0.mk (show Kd.R k28 28 w23 w.heap.size (fun _ => True) (.slice (some ⟨go62, 0, none⟩) y146.length co21) y146 from (by (with_reducible repeat (first | apply Kd.R_alloc | apply Kd.R_drewN | apply Kd.R_drew)); exact HO148.out))
                            obtain ⟨ce64, hcl64, hM64, hcc64, hfr64⟩ := Kd.R_elem HX64.out z28 (t149 : Int) (of_decide_eq_true (by first | (with_reducible assumption) | assumption)) (by have h_ : (t149 : Int) < ((y146.length : Int) : Int) := of_decide_eq_true (by first | (with_reducible assumption) | assumption); first | exact h_ | (have e_ := (Kd.R_reads' HO148.out).1; omega) | simpa using h_)
                            obtain rfl := k28_openM hM64
                            have HP64 := Kd.R_seg HX64.out (t149 : Int) (of_decide_eq_true (by first | (with_reducible assumption) | assumption)) (by have h_ : (t149 : Int) < ((y146.length : Int) : Int) := of_decide_eq_true (by first | (with_reducible assumption) | assumption); first | exact h_ | (have e_ := (Kd.R_reads' HO148.out).1; omega) | simpa using h_) (seg := [.int .i64 4611686018427387904]) (j := 2) hcl64 hcc64 (show 3 ≤ 3 from by decide) (x' := (⟨(rd_T28 y146 t149).f0, (rd_T28 y146 t149).f1, 4611686018427387904⟩ : S28)) (k28_mkM _ _ _ (⟨(rd_T28 y146 t149).f0, (rd_T28 y146 t149).f1, 4611686018427387904⟩ : S28) ) (fun _ hk => hk)
                            have hx64_2 := hcc64 2 _ rfl
                            (try simp only [show (k28).sz = 3 from rfl, Nat.mul_one, Nat.add_zero] at hx64_2)
                            have hf64_2 := hfr64 2
                            (try simp only [show (k28).sz = 3 from rfl, Nat.mul_one, Nat.add_zero] at hf64_2)
                            clear hcl64 hcc64 hfr64 hM64
                            go_wp2_with (first | ((with_reducible refine gate_store (t := 2) (p := 39) rfl ?_); refine store_event (t := 2) (p := 39) (v := ?vo_w65) (w1 := (w23.setCell ⟨go62, (t149 : Int).toNat * 3 + 2, none⟩ (.int .i64 4611686018427387904))) ?hg ?ho ?hn ?hr ?_; (case ho => rfl); (case hg => rfl); (case hn => rfl); (case hr => first | (go_simp; done) | (go_simp; rfl)); intro w65 hw; have hg : w23.grownBy w65 (some go62) := (by rw [hw]; exact HP64.2); have hp_ : Kd.R k28 28 w65 w.heap.size (fun _ => True) (.slice (some ⟨go62, 0, none⟩) y146.length co21) y155 := (by rw [hw, Ny155.out]; exact HP64.1); clear HP64; have n0_ := Aside0.mk (blk_grown (g := gb145) (o := .cells #[.int .i64 t139, .int .i64 t140, .int .i64 t141, .slice (some ⟨go62, 0, none⟩) y146.length co21] 26 (0, 0)) (by (with_reducible repeat (first | refine blk_drewN ?_ _ | refine blk_drew ?_ | refine blk_alloc ?_ _)); exact BK145.out) hg (Kd.R_ne HO148.out BK145.out (by decide))); have n1_ := Aside0.mk (hp_); have n2_ := Aside0.mk ((by rw [hw]; exact below_set (HB.out) GB62.out : Below w.heap.size w w65)); clear BK145; clear HO148; clear HB; have BK145 := n0_; have HO148 := n1_; have HB := n2_; clear n0_ n1_ n2_; clear hg hw hp_))
                            go_meet
                            case rel => exact ⟨_, (7), (t139), (t140), (t141), (y155), (.slice (some ⟨go62, 0, none⟩) y146.length co21), (by first | rfl | (simp; done) | (simp [*]; done)), H', ⟨by first | omega | exact Nat.le_refl _⟩, ⟨by (with_reducible repeat (first | apply Kd.R_alloc | apply Kd.R_drewN | apply Kd.R_drew)); exact HO148.out⟩, ⟨by (with_reducible repeat (first | refine blk_drewN ?_ _ | refine blk_drew ?_ | refine blk_alloc ?_ _)); exact BK145.out⟩, ⟨by repeat (first | (with_reducible first | exact HB.out | apply below_alloc | apply pw_below_drewN | apply below_drew1 | refine below_set ?_ GE145.out) | exact HB.out)⟩⟩
                          · rw [if_neg c61] at H
                            exact absurd H (by simp)
                        · rw [if_neg c60] at H
                          exact absurd H (by simp)
      case rest =>
        clear HC12
        try clear c1
        try clear c2
        try clear p2
        try clear c3
        try clear p3
        try clear q3
        try clear hx3
        try clear c4
        try clear p4
        try clear q4
        try clear hx4
        try clear c5
        try clear p5
        try clear q5
        try clear hx5
        try clear hf5
        try clear c6
        try clear p6
        try clear q6
        try clear hx6
        try clear hf6
        try clear c7
        try clear c9
        try clear c14
        try clear c15
        try clear c17
        try clear c25
        try clear c25b0
        try clear c25b1
        try clear c27
        try clear c27b0
        try clear c27b1
        try clear c29
        try clear c29b0
        try clear c29b1
        try clear c31
        try clear c31b0
        try clear c31b1
        try clear c33
        try clear c33b0
        try clear c33b1
        try clear c35
        try clear c35b0
        try clear c35b1
        try clear c36
        try clear c36b0
        try clear c37
        try clear c37b0
        try clear c38
        try clear p38
        try clear q38
        try clear hx38
        try clear hf38
        try clear c39
        try clear p39
        try clear q39
        try clear hx39
        try clear hf39
        try clear c41
        try clear hx41
        try clear hf41
        try clear c44
        try clear hx44
        try clear hf44
        try clear c46
        try clear c46b0
        try clear c46b1
        try clear c47
        try clear c47b0
        try clear c48
        try clear c48b0
        try clear c49
        try clear p49
        try clear q49
        try clear hx49
        try clear hf49
        try clear c51
        try clear hx51
        try clear hf51
        try clear c53
        try clear c53b0
        try clear c53b1
        try clear c54
        try clear c54b0
        try clear c55
        try clear c55b0
        try clear c56
        try clear p56
        try clear q56
        try clear hx56
        try clear hf56
        try clear c58
        try clear hx58
        try clear hf58
        try clear c60
        try clear c60b0
        try clear c61
        try clear c61b0
        try clear c62
        try clear p62
        try clear q62
        try clear hx62
        try clear hf62
        try clear c64
        try clear p64
        try clear hx64
        try clear hf64
        try clear hcz16_0
        try clear hcz16_1
        try clear hcz16_2
        try clear hcz16_3
        try clear hcz19_0
        try clear hcz19_1
        try clear hcz19_2
        try clear hcz19_3
        try clear hcz22_0
        try clear hcz22_1
        try clear hcz22_2
        try clear hcz22_3
        try clear hcz24_0
        try clear hcz24_1
        try clear hcz24_2
        try clear hcz24_3
        try clear hcz26_0
        try clear hcz26_1
        try clear hcz26_2
        try clear hcz26_3
        try clear hcz28_0
        try clear hcz28_1
        try clear hcz28_2
        try clear hcz28_3
        try clear hcz30_0
        try clear hcz30_1
        try clear hcz30_2
        try clear hcz30_3
        try clear hcz32_0
        try clear hcz32_1
        try clear hcz32_2
        try clear hcz32_3
        try clear hcz34_0
        try clear hcz34_1
        try clear hcz34_2
        try clear hcz34_3
        try clear hcz40_0
        try clear hcz40_1
        try clear hcz40_2
        try clear hcz40_3
        try clear hcz43_0
        try clear hcz43_1
        try clear hcz43_2
        try clear hcz43_3
        try clear hcz50_0
        try clear hcz50_1
        try clear hcz50_2
        try clear hcz50_3
        try clear hcz57_0
        try clear hcz57_1
        try clear hcz57_2
        try clear hcz57_3
        try clear hcz63_0
        try clear hcz63_1
        try clear hcz63_2
        try clear hcz63_3
        try clear hfz16_0
        try clear hfz16_1
        try clear hfz16_2
        try clear hfz16_3
        try clear hfz19_0
        try clear hfz19_1
        try clear hfz19_2
        try clear hfz19_3
        try clear hfz22_0
        try clear hfz22_1
        try clear hfz22_2
        try clear hfz22_3
        try clear hfz24_0
        try clear hfz24_1
        try clear hfz24_2
        try clear hfz24_3
        try clear hfz26_0
        try clear hfz26_1
        try clear hfz26_2
        try clear hfz26_3
        try clear hfz28_0
        try clear hfz28_1
        try clear hfz28_2
        try clear hfz28_3
        try clear hfz30_0
        try clear hfz30_1
        try clear hfz30_2
        try clear hfz30_3
        try clear hfz32_0
        try clear hfz32_1
        try clear hfz32_2
        try clear hfz32_3
        try clear hfz34_0
        try clear hfz34_1
        try clear hfz34_2
        try clear hfz34_3
        try clear hfz40_0
        try clear hfz40_1
        try clear hfz40_2
        try clear hfz40_3
        try clear hfz43_0
        try clear hfz43_1
        try clear hfz43_2
        try clear hfz43_3
        try clear hfz50_0
        try clear hfz50_1
        try clear hfz50_2
        try clear hfz50_3
        try clear hfz57_0
        try clear hfz57_1
        try clear hfz57_2
        try clear hfz57_3
        try clear hfz63_0
        try clear hfz63_1
        try clear hfz63_2
        try clear hfz63_3
        try clear hx38_0
        try clear hx38_1
        try clear hx38_2
        try clear hx39_0
        try clear hx39_1
        try clear hx39_2
        try clear hx41_0
        try clear hx44_2
        try clear hx49_0
        try clear hx49_1
        try clear hx49_2
        try clear hx51_1
        try clear hx56_0
        try clear hx56_1
        try clear hx56_2
        try clear hx58_2
        try clear hx62_0
        try clear hx62_1
        try clear hx62_2
        try clear hx64_2
        try clear p38
        try clear p39
        try clear p49
        try clear p56
        try clear p62
        try clear q38
        try clear q39
        try clear q49
        try clear q56
        try clear q62
        obtain ⟨kq, x14_11, x146000_11, x146001_11, x146002_11, x146003_11, u146003, rfl, HA, HJ11, HO_146003, BK145, HB⟩ := hcut
        cases kq with
        | zero => exact absurd HA.out (by simp [racewaylaw3_NetOrder.j0])
        | succ kj11 =>
          have H := HA.out
          clear HA
          simp only [racewaylaw3_NetOrder.j0] at H
          replace H := Option.bind_eq_some_iff.mp H
          obtain ⟨t156, A660, H⟩ := H
          replace H : (if t156 = x14_11 then ((net_Turn.f x146000_11 x146001_11 x146002_11 x146003_11).bind fun bt157 => ((net_Check.f bt157.1 bt157.2.1 bt157.2.2.1 bt157.2.2.2).bind fun t163 => (if t163 = x14_11 then ((net_Copy.f x146000_11 x146001_11 x146002_11 x146003_11).bind fun bt164 => ((net_Check.f bt164.1 bt164.2.1 bt164.2.2.1 bt164.2.2.2).bind fun t170 => (some (t170 == x14_11)))) else (some false)))) else (some false)) = some r := H
          have A66 := Aside0.mk A660
          clear A660
          by_cases c67 : t156 = x14_11
          · rw [if_pos c67] at H
            have c67b0 : (t156 == x14_11) = true := beq_iff_eq.mpr c67
            have c67b1 : (t156 != x14_11) = false := bne_eq_false_iff_eq.mpr c67
            clear c67
            replace H := Option.bind_eq_some_iff.mp H
            obtain ⟨⟨t157, t158, t159, t160⟩, A680, H⟩ := H
            replace H : ((net_Check.f t157 t158 t159 t160).bind fun t163 => (if t163 = x14_11 then ((net_Copy.f x146000_11 x146001_11 x146002_11 x146003_11).bind fun bt164 => ((net_Check.f bt164.1 bt164.2.1 bt164.2.2.1 bt164.2.2.2).bind fun t170 => (some (t170 == x14_11)))) else (some false))) = some r := H
            have A68 := Aside0.mk A680
            clear A680
            replace H := Option.bind_eq_some_iff.mp H
            obtain ⟨t163, A690, H⟩ := H
            replace H : (if t163 = x14_11 then ((net_Copy.f x146000_11 x146001_11 x146002_11 x146003_11).bind fun bt164 => ((net_Check.f bt164.1 bt164.2.1 bt164.2.2.1 bt164.2.2.2).bind fun t170 => (some (t170 == x14_11)))) else (some false)) = some r := H
            have A69 := Aside0.mk A690
            clear A690
            by_cases c70 : t163 = x14_11
            · rw [if_pos c70] at H
              have c70b0 : (t163 == x14_11) = true := beq_iff_eq.mpr c70
              have c70b1 : (t163 != x14_11) = false := bne_eq_false_iff_eq.mpr c70
              clear c70
              replace H := Option.bind_eq_some_iff.mp H
              obtain ⟨⟨t164, t165, t166, t167⟩, A710, H⟩ := H
              replace H : ((net_Check.f t164 t165 t166 t167).bind fun t170 => (some (t170 == x14_11))) = some r := H
              have A71 := Aside0.mk A710
              clear A710
              replace H := Option.bind_eq_some_iff.mp H
              obtain ⟨t170, A720, H⟩ := H
              replace H : (some (t170 == x14_11)) = some r := H
              have A72 := Aside0.mk A720
              clear A720
              obtain rfl := Option.some.inj H
              have hcz73_0 : wc.cell? ⟨gb145, 0, none⟩ = some (.int .i64 x146000_11) := (blk_cell BK145.out 0).trans rfl
              have hcz73_1 : wc.cell? ⟨gb145, 1, none⟩ = some (.int .i64 x146001_11) := (blk_cell BK145.out 1).trans rfl
              have hcz73_2 : wc.cell? ⟨gb145, 2, none⟩ = some (.int .i64 x146002_11) := (blk_cell BK145.out 2).trans rfl
              have hcz73_3 : wc.cell? ⟨gb145, 3, none⟩ = some (u146003) := (blk_cell BK145.out 3).trans rfl
              have hfz73_0 := blk_frozen BK145.out 0
              have hfz73_1 := blk_frozen BK145.out 1
              have hfz73_2 := blk_frozen BK145.out 2
              have hfz73_3 := blk_frozen BK145.out 3
              obtain ⟨Ao74, co74, eo74⟩ := Kd.R_slice HO_146003.out
              subst eo74
              go_wp2_with (first | ((with_reducible refine gate_callee (f := 16) rfl ?_); refine goesL_ (some 90) rfl rfl Try.func16 (by kernel_rfl) rfl #[.agg #[.int .i64 x146000_11, .int .i64 x146001_11, .int .i64 x146002_11, .slice Ao74 x146003_11.length co74]] rfl (by (try simp only [List.map_toArray, List.map_cons, List.map_nil]); first | done | rfl | (simp only [List.length_drop, List.length_take]; rfl)) ?_; (with_reducible refine (net_Check.calls x146000_11 x146001_11 x146002_11 _ _ x146003_11 t156 _ ?side1 ?side2 A66.out).mono ?_); (case side1 => repeat (first | exact (Kd.R_reads' HO_146003.out).2.2 | (with_reducible refine Kd.C_alloc ?_ _) | (with_reducible refine Kd.C_drewN ?_ _) | (with_reducible refine Kd.C_drew ?_))); (case side2 => exact (Kd.R_reads' HO_146003.out).2.1); rintro e w75 ⟨rfl, hb⟩; refine ⟨_, rfl, ?_⟩; have n0_ := Aside0.mk (Kd.R_below (by (with_reducible repeat (first | apply Kd.R_alloc | apply Kd.R_drewN | apply Kd.R_drew)); exact HO_146003.out) hb); have n1_ := Aside0.mk (blk_below (g := gb145) (o := .cells #[.int .i64 x146000_11, .int .i64 x146001_11, .int .i64 x146002_11, .slice Ao74 x146003_11.length co74] 26 (0, 0)) (by (with_reducible repeat (first | refine blk_drewN ?_ _ | refine blk_drew ?_ | refine blk_alloc ?_ _)); exact BK145.out) hb); have n2_ := Aside0.mk (below_step (by repeat (first | (with_reducible first | exact HB.out | apply below_alloc | apply pw_below_drewN | apply below_drew1 | refine below_set ?_ GE145.out) | exact HB.out)) hb); clear HO_146003; clear BK145; clear HB; have HO_146003 := n0_; have BK145 := n1_; have HB := n2_; clear n0_ n1_ n2_; (try clear hb); (try clear hb2); (try clear hk); (try clear hi); have hcz76_0 : w75.cell? ⟨gb145, 0, none⟩ = some (.int .i64 x146000_11) := (blk_cell BK145.out 0).trans rfl; have hcz76_1 : w75.cell? ⟨gb145, 1, none⟩ = some (.int .i64 x146001_11) := (blk_cell BK145.out 1).trans rfl; have hcz76_2 : w75.cell? ⟨gb145, 2, none⟩ = some (.int .i64 x146002_11) := (blk_cell BK145.out 2).trans rfl; have hcz76_3 : w75.cell? ⟨gb145, 3, none⟩ = some (.slice Ao74 x146003_11.length co74) := (blk_cell BK145.out 3).trans rfl; have hfz76_0 := blk_frozen BK145.out 0; have hfz76_1 := blk_frozen BK145.out 1; have hfz76_2 := blk_frozen BK145.out 2; have hfz76_3 := blk_frozen BK145.out 3) | (go_at_call 20; (with_reducible refine (net_Turn.calls x146000_11 x146001_11 x146002_11 _ _ x146003_11 t157 t158 t159 t160 _ ?side1 ?side2 A68.out).mono ?_); (case side1 => repeat (first | exact (Kd.R_reads' HO_146003.out).2.2 | (with_reducible refine Kd.C_alloc ?_ _) | (with_reducible refine Kd.C_drewN ?_ _) | (with_reducible refine Kd.C_drew ?_))); (case side2 => exact (Kd.R_reads' HO_146003.out).2.1); rintro e w77 ⟨v161, rfl, ho0, hb⟩; have n0_ := Aside0.mk (Kd.R_elder' (by (with_reducible repeat (first | apply Kd.R_alloc | apply Kd.R_drewN | apply Kd.R_drew)); exact HO_146003.out) (Kd.R_base ho0) hb); have n1_ := Aside0.mk (Kd.R_lower (Kd.R_new' ho0 (Kd.R_lt (by (with_reducible repeat (first | apply Kd.R_alloc | apply Kd.R_drewN | apply Kd.R_drew)); exact HO_146003.out))) (below_size (by repeat (first | (with_reducible first | exact HB.out | apply below_alloc | apply pw_below_drewN | apply below_drew1 | refine below_set ?_ GE145.out) | exact HB.out)))); have n2_ := Aside0.mk (blk_below (g := gb145) (o := .cells #[.int .i64 x146000_11, .int .i64 x146001_11, .int .i64 x146002_11, .slice Ao74 x146003_11.length co74] 26 (0, 0)) (by (with_reducible repeat (first | refine blk_drewN ?_ _ | refine blk_drew ?_ | refine blk_alloc ?_ _)); exact BK145.out) hb); have n3_ := Aside0.mk (below_step (by repeat (first | (with_reducible first | exact HB.out | apply below_alloc | apply pw_below_drewN | apply below_drew1 | refine below_set ?_ GE145.out) | exact HB.out)) hb); clear HO_146003; clear BK145; clear HB; have HO_146003 := n0_; have HO162 := n1_; have BK145 := n2_; have HB := n3_; clear n0_ n1_ n2_ n3_; (try clear hb); (try clear hb2); (try clear hk); (try clear hi); (try clear ho0); obtain ⟨Ao78, co78, eo78⟩ := Kd.R_slice HO162.out; subst eo78) | (go_at_call 16; (with_reducible refine (net_Check.calls t157 t158 t159 _ _ t160 t163 _ ?side1 ?side2 A69.out).mono ?_); (case side1 => repeat (first | exact (Kd.R_reads' HO162.out).2.2 | (with_reducible refine Kd.C_alloc ?_ _) | (with_reducible refine Kd.C_drewN ?_ _) | (with_reducible refine Kd.C_drew ?_))); (case side2 => exact (Kd.R_reads' HO162.out).2.1); rintro e w79 ⟨rfl, hb⟩; have n0_ := Aside0.mk (Kd.R_below (by (with_reducible repeat (first | apply Kd.R_alloc | apply Kd.R_drewN | apply Kd.R_drew)); exact HO_146003.out) hb); have n1_ := Aside0.mk (Kd.R_below (by (with_reducible repeat (first | apply Kd.R_alloc | apply Kd.R_drewN | apply Kd.R_drew)); exact HO162.out) hb); have n2_ := Aside0.mk (blk_below (g := gb145) (o := .cells #[.int .i64 x146000_11, .int .i64 x146001_11, .int .i64 x146002_11, .slice Ao74 x146003_11.length co74] 26 (0, 0)) (by (with_reducible repeat (first | refine blk_drewN ?_ _ | refine blk_drew ?_ | refine blk_alloc ?_ _)); exact BK145.out) hb); have n3_ := Aside0.mk (below_step (by repeat (first | (with_reducible first | exact HB.out | apply below_alloc | apply pw_below_drewN | apply below_drew1 | refine below_set ?_ GE145.out) | exact HB.out)) hb); clear HO_146003; clear HO162; clear BK145; clear HB; have HO_146003 := n0_; have HO162 := n1_; have BK145 := n2_; have HB := n3_; clear n0_ n1_ n2_ n3_; (try clear hb); (try clear hb2); (try clear hk); (try clear hi); have hcz80_0 : w79.cell? ⟨gb145, 0, none⟩ = some (.int .i64 x146000_11) := (blk_cell BK145.out 0).trans rfl; have hcz80_1 : w79.cell? ⟨gb145, 1, none⟩ = some (.int .i64 x146001_11) := (blk_cell BK145.out 1).trans rfl; have hcz80_2 : w79.cell? ⟨gb145, 2, none⟩ = some (.int .i64 x146002_11) := (blk_cell BK145.out 2).trans rfl; have hcz80_3 : w79.cell? ⟨gb145, 3, none⟩ = some (.slice Ao74 x146003_11.length co74) := (blk_cell BK145.out 3).trans rfl; have hfz80_0 := blk_frozen BK145.out 0; have hfz80_1 := blk_frozen BK145.out 1; have hfz80_2 := blk_frozen BK145.out 2; have hfz80_3 := blk_frozen BK145.out 3) | (go_at_call 18; (with_reducible refine (net_Copy.calls x146000_11 x146001_11 x146002_11 _ _ x146003_11 t164 t165 t166 t167 _ ?side1 ?side2 A71.out).mono ?_); (case side1 => repeat (first | exact (Kd.R_reads' HO_146003.out).2.2 | (with_reducible refine Kd.C_alloc ?_ _) | (with_reducible refine Kd.C_drewN ?_ _) | (with_reducible refine Kd.C_drew ?_))); (case side2 => exact (Kd.R_reads' HO_146003.out).2.1); rintro e w81 ⟨v168, rfl, ho0, hb⟩; have n0_ := Aside0.mk (Kd.R_elder' (by (with_reducible repeat (first | apply Kd.R_alloc | apply Kd.R_drewN | apply Kd.R_drew)); exact HO_146003.out) (Kd.R_base ho0) hb); have n1_ := Aside0.mk (Kd.R_elder' (by (with_reducible repeat (first | apply Kd.R_alloc | apply Kd.R_drewN | apply Kd.R_drew)); exact HO162.out) (Kd.R_base ho0) hb); have n2_ := Aside0.mk (Kd.R_lower (Kd.R_new' (Kd.R_new' ho0 (Kd.R_lt (by (with_reducible repeat (first | apply Kd.R_alloc | apply Kd.R_drewN | apply Kd.R_drew)); exact HO_146003.out))) (Kd.R_lt (by (with_reducible repeat (first | apply Kd.R_alloc | apply Kd.R_drewN | apply Kd.R_drew)); exact HO162.out))) (below_size (by repeat (first | (with_reducible first | exact HB.out | apply below_alloc | apply pw_below_drewN | apply below_drew1 | refine below_set ?_ GE145.out) | exact HB.out)))); have n3_ := Aside0.mk (blk_below (g := gb145) (o := .cells #[.int .i64 x146000_11, .int .i64 x146001_11, .int .i64 x146002_11, .slice Ao74 x146003_11.length co74] 26 (0, 0)) (by (with_reducible repeat (first | refine blk_drewN ?_ _ | refine blk_drew ?_ | refine blk_alloc ?_ _)); exact BK145.out) hb); have n4_ := Aside0.mk (below_step (by repeat (first | (with_reducible first | exact HB.out | apply below_alloc | apply pw_below_drewN | apply below_drew1 | refine below_set ?_ GE145.out) | exact HB.out)) hb); clear HO_146003; clear HO162; clear BK145; clear HB; have HO_146003 := n0_; have HO162 := n1_; have HO169 := n2_; have BK145 := n3_; have HB := n4_; clear n0_ n1_ n2_ n3_ n4_; (try clear hb); (try clear hb2); (try clear hk); (try clear hi); (try clear ho0); obtain ⟨Ao82, co82, eo82⟩ := Kd.R_slice HO169.out; subst eo82) | (go_at_call 16; (with_reducible refine (net_Check.calls t164 t165 t166 _ _ t167 t170 _ ?side1 ?side2 A72.out).mono ?_); (case side1 => repeat (first | exact (Kd.R_reads' HO169.out).2.2 | (with_reducible refine Kd.C_alloc ?_ _) | (with_reducible refine Kd.C_drewN ?_ _) | (with_reducible refine Kd.C_drew ?_))); (case side2 => exact (Kd.R_reads' HO169.out).2.1); rintro e w83 ⟨rfl, hb⟩; have n0_ := Aside0.mk (Kd.R_below (by (with_reducible repeat (first | apply Kd.R_alloc | apply Kd.R_drewN | apply Kd.R_drew)); exact HO_146003.out) hb); have n1_ := Aside0.mk (Kd.R_below (by (with_reducible repeat (first | apply Kd.R_alloc | apply Kd.R_drewN | apply Kd.R_drew)); exact HO162.out) hb); have n2_ := Aside0.mk (Kd.R_below (by (with_reducible repeat (first | apply Kd.R_alloc | apply Kd.R_drewN | apply Kd.R_drew)); exact HO169.out) hb); have n3_ := Aside0.mk (blk_below (g := gb145) (o := .cells #[.int .i64 x146000_11, .int .i64 x146001_11, .int .i64 x146002_11, .slice Ao74 x146003_11.length co74] 26 (0, 0)) (by (with_reducible repeat (first | refine blk_drewN ?_ _ | refine blk_drew ?_ | refine blk_alloc ?_ _)); exact BK145.out) hb); have n4_ := Aside0.mk (below_step (by repeat (first | (with_reducible first | exact HB.out | apply below_alloc | apply pw_below_drewN | apply below_drew1 | refine below_set ?_ GE145.out) | exact HB.out)) hb); clear HO_146003; clear HO162; clear HO169; clear BK145; clear HB; have HO_146003 := n0_; have HO162 := n1_; have HO169 := n2_; have BK145 := n3_; have HB := n4_; clear n0_ n1_ n2_ n3_ n4_; (try clear hb); (try clear hb2); (try clear hk); (try clear hi)))
              go_ret
              exact ⟨by first | rfl | (simp [errW_none, errW_some] <;> rfl) | (simp [*, errW_none, errW_some] <;> rfl), by repeat (first | (with_reducible first | exact HB.out | apply below_alloc | apply pw_below_drewN | apply below_drew1 | refine below_set ?_ GE145.out) | exact HB.out)⟩
            · rw [if_neg c70] at H
              have c70b0 : (t163 == x14_11) = false := beq_eq_false_iff_ne.mpr c70
              have c70b1 : (t163 != x14_11) = true := bne_iff_ne.mpr c70
              exact absurd ((Option.some.inj H).trans hrT_.out) (by simp)
          · rw [if_neg c67] at H
            have c67b0 : (t156 == x14_11) = false := beq_eq_false_iff_ne.mpr c67
            have c67b1 : (t156 != x14_11) = true := bne_iff_ne.mpr c67
            exact absurd ((Option.some.inj H).trans hrT_.out) (by simp)
    · rw [if_neg c9] at H
      exact absurd H (by simp)
  · replace c7 := Bool.eq_false_iff.mpr c7
    subst c7
    have H1 : (some false) = some r := by rw [if_neg (show ¬ (false = true) by decide)] at H; exact H
    clear H
    have H := H1
    clear H1
    exact absurd ((Option.some.inj H).trans hrT_.out) (by simp)

/-- THE ONE PURE STATEMENT of racewaylaw3_NetOrder. -/
def racewaylaw3_NetOrder.Pure : Prop := ∀ (a0 : Int) (a1 : Int) (l2 : List (S41)) (a3 : Int) (a4 : Int), (Lit.int .i64 a0).wf = true → (Lit.int .i64 a1).wf = true → l2.length ≤ maxLen → (∀ x ∈ l2, (Lit.int .i64 x.f0).wf = true ∧ (Lit.int .i64 x.f1).wf = true ∧ (Lit.int .i64 x.f2).wf = true) → (Lit.int .i64 a3).wf = true → (Lit.int .i64 a4).wf = true → ∃ k, racewaylaw3_NetOrder.f k a0 a1 l2 a3 a4 = some true
theorem racewaylaw3_NetOrder.walk (P : racewaylaw3_NetOrder.Pure) (a0 : Int) (a1 : Int) (A2 : Option Addr) (c2 : Nat) (l2 : List (S41)) (a3 : Int) (a4 : Int) (w : World) (w0 : (Lit.int .i64 a0).wf = true) (w1 : (Lit.int .i64 a1).wf = true) (hr2 : Kd.C k41 w A2 l2.length l2) (hc2 : l2.length ≤ c2) (hm2 : l2.length ≤ maxLen) (hw2 : (∀ x ∈ l2, (Lit.int .i64 x.f0).wf = true ∧ (Lit.int .i64 x.f1).wf = true ∧ (Lit.int .i64 x.f2).wf = true)) (w3 : (Lit.int .i64 a3).wf = true) (w4 : (Lit.int .i64 a4).wf = true) :
    Calls Try.prog 5 #[.int .i64 a0, .int .i64 a1, .slice A2 l2.length c2, .int .i64 a3, .int .i64 a4] w fun e w' => e = .returned (.bool true) ∧ Below w.heap.size w w' := by
  obtain ⟨k, h⟩ := P a0 a1 l2 a3 a4 w0 w1 hm2 hw2 w3 w4
  refine (racewaylaw3_NetOrder.calls k a0 a1 _ _ l2 a3 a4 true w hr2 hc2 h ⟨rfl⟩).mono ?_
  rintro e w' ⟨rfl, hd⟩
  exact ⟨rfl, hd⟩

end Go.Proofs.Ytjbeofcgnnlllaa.PNetOrder
