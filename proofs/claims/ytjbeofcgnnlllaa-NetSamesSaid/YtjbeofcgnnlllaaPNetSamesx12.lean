/- For the claim that the law NetSames of the given program holds for every input: a text written by a program (wip/myprint over the kit's print), with contracts by hand where it says MANUAL. -/
import Derived.Test.YtjbeofcgnnlllaaPNetSamesx0
import Derived.Test.YtjbeofcgnnlllaaPNetSamesx6
import Derived.Test.YtjbeofcgnnlllaaPNetSamesx7
import Derived.Test.YtjbeofcgnnlllaaPNetSamesx8
import Derived.Test.YtjbeofcgnnlllaaPNetSamesx9
import Derived.Test.YtjbeofcgnnlllaaPNetSamesx11
namespace Go.Proofs.Ytjbeofcgnnlllaa.PNetSames
open Go.RowKit Go.Proofs.YtjbeofcgnnlllaaW.PrintWords Go.Proofs.YtjbeofcgnnlllaaW.PrintLast Go.Proofs.YtjbeofcgnnlllaaW.PrintMore
attribute [local go_sem] max2_int min2_int max_two min_two max_three min_three max_four min_four   -- for this text's walks alone
set_option linter.unusedVariables false
set_option linter.unusedSimpArgs false

/-! ### racewaylaw3_NetSames: function 4 -/
def racewaylaw3_NetSames.j0 : Nat → Int → Int → Int → List (S28) → Int → Int → Int → List (S28) → Option (Bool)
  | 0, _, _, _, _, _, _, _, _ => none
  | k + 1, x146000, x146001, x146002, x146003, x156000, x156001, x156002, x156003 => (net_Same.f x146000 x146001 x146002 x146003 x146000 x146001 x146002 x146003).bind fun t167 => (if t167 = true then ((net_Same.f x146000 x146001 x146002 x146003 x156000 x156001 x156002 x156003).bind fun t168 => (if t168 = true then (some false) else ((net_Same.f x156000 x156001 x156002 x156003 x146000 x146001 x146002 x146003).bind fun t169 => (if t169 = true then (some false) else ((net_Copy.f x156000 x156001 x156002 x156003).bind fun bt170 => ((net_Same.f bt170.1 bt170.2.1 bt170.2.2.1 bt170.2.2.2 x156000 x156001 x156002 x156003).bind fun t176 => (some t176))))))) else (some false))
def racewaylaw3_NetSames.f (k : Nat) (a0 : Int) (a1 : Int) (l2 : List (S41)) (a3 : Int) (a4 : Int) : Option (Bool) := (racewaylaw3_shown.f).bind fun t138 => (if t138 = true then ((racewaylaw3_made.f k a0 a1 l2).bind fun bt139 => (if bt139.2.2.2.length < 5864062014805 then ((some (bt139.2.2.2 ++ [(⟨1, 2, 1⟩ : S28)] : List (S28))).bind fun y146 => ((net_Copy.f bt139.1 bt139.2.1 bt139.2.2.1 y146).bind fun bt149 => ((racewaylaw3_pick.f a3 (bt149.2.2.2.length : Int)).bind fun t156 => ((racewaylaw3_pick.f a4 7).bind fun t157 => (if t157 = 0 then (racewaylaw3_NetSames.j0 k bt139.1 bt139.2.1 bt139.2.2.1 y146 (wrap64 (bt149.1 + 1)) bt149.2.1 bt149.2.2.1 bt149.2.2.2) else (if t157 = 1 then (racewaylaw3_NetSames.j0 k bt139.1 bt139.2.1 bt139.2.2.1 y146 bt149.1 (wrap64 (bt149.2.1 + 1)) bt149.2.2.1 bt149.2.2.2) else (if t157 = 2 then (racewaylaw3_NetSames.j0 k bt139.1 bt139.2.1 bt139.2.2.1 y146 bt149.1 bt149.2.1 (wrap64 (bt149.2.2.1 - 1)) bt149.2.2.2) else (if t157 = 3 then (if 0 ≤ t156 then (if t156 < (bt149.2.2.2.length : Int) then (racewaylaw3_NetSames.j0 k bt139.1 bt139.2.1 bt139.2.2.1 y146 bt149.1 bt149.2.1 bt149.2.2.1 (bt149.2.2.2.set (t156 : Int).toNat (⟨wrap64 (((rd_T28 bt149.2.2.2 t156).f0) + 1), (rd_T28 bt149.2.2.2 t156).f1, (rd_T28 bt149.2.2.2 t156).f2⟩ : S28))) else (none)) else (none)) else (if t157 = 4 then (if 0 ≤ t156 then (if t156 < (bt149.2.2.2.length : Int) then (racewaylaw3_NetSames.j0 k bt139.1 bt139.2.1 bt139.2.2.1 y146 bt149.1 bt149.2.1 bt149.2.2.1 (bt149.2.2.2.set (t156 : Int).toNat (⟨(rd_T28 bt149.2.2.2 t156).f0, wrap64 (((rd_T28 bt149.2.2.2 t156).f1) - 1), (rd_T28 bt149.2.2.2 t156).f2⟩ : S28))) else (none)) else (none)) else (if t157 = 5 then (if 0 ≤ t156 then (if t156 < (bt149.2.2.2.length : Int) then (racewaylaw3_NetSames.j0 k bt139.1 bt139.2.1 bt139.2.2.1 y146 bt149.1 bt149.2.1 bt149.2.2.1 (bt149.2.2.2.set (t156 : Int).toNat (⟨(rd_T28 bt149.2.2.2 t156).f0, (rd_T28 bt149.2.2.2 t156).f1, wrap64 (((rd_T28 bt149.2.2.2 t156).f2) + 1)⟩ : S28))) else (none)) else (none)) else (if 1 ≤ (bt149.2.2.2.length : Int) then (racewaylaw3_NetSames.j0 k bt139.1 bt139.2.1 bt139.2.2.1 y146 bt149.1 bt149.2.1 bt149.2.2.1 (bt149.2.2.2.drop (1 : Int).toNat)) else (none)))))))))))) else (none))) else (some false))
theorem racewaylaw3_NetSames.mono_l : ∀ k, (∀ y0 y1 y2 y3 y4 y5 y6 y7, LeO (racewaylaw3_NetSames.j0 k y0 y1 y2 y3 y4 y5 y6 y7) (racewaylaw3_NetSames.j0 (k + 1) y0 y1 y2 y3 y4 y5 y6 y7))
  | 0 => fun _ _ _ _ _ _ _ _ r h => by simp [racewaylaw3_NetSames.j0] at h
  | k + 1 => by
    have ih0 := racewaylaw3_NetSames.mono_l k
    · intro y0 y1 y2 y3 y4 y5 y6 y7
      unfold racewaylaw3_NetSames.j0
      repeat' first
      | (with_reducible exact ih0 _ _ _ _ _ _ _ _)
      | (with_reducible exact racewaylaw3_made.mono _ _ _ _)
      | (with_reducible exact LeO.refl _)
      | (with_reducible exact LeO.none _)
      | (with_reducible refine LeO.ite ?_ ?_)
      | (with_reducible refine LeO.bind ?_ (fun _ => ?_))
      | exact ih0 _ _ _ _ _ _ _ _
      | exact racewaylaw3_made.mono _ _ _ _
      | exact LeO.none _
      | refine LeO.ite ?_ ?_
      | refine LeO.bind ?_ (fun _ => ?_)
theorem racewaylaw3_NetSames.mono : ∀ a0 a1 a2 a3 a4 k, LeO (racewaylaw3_NetSames.f k a0 a1 a2 a3 a4) (racewaylaw3_NetSames.f (k + 1) a0 a1 a2 a3 a4) := by
  intro a0 a1 a2 a3 a4 k
  have ih0 := racewaylaw3_NetSames.mono_l k
  unfold racewaylaw3_NetSames.f
  repeat' first
      | (with_reducible exact ih0 _ _ _ _ _ _ _ _)
      | (with_reducible exact racewaylaw3_made.mono _ _ _ _)
      | (with_reducible exact LeO.refl _)
      | (with_reducible exact LeO.none _)
      | (with_reducible refine LeO.ite ?_ ?_)
      | (with_reducible refine LeO.bind ?_ (fun _ => ?_))
      | exact ih0 _ _ _ _ _ _ _ _
      | exact racewaylaw3_made.mono _ _ _ _
      | exact LeO.none _
      | refine LeO.ite ?_ ?_
      | refine LeO.bind ?_ (fun _ => ?_)
def racewaylaw3_NetSames.T22 : Bool × List (List Nat × List Nat) := (true, [([], []), ([], []), ([0, 1], [0, 1]), ([2, 2], [2]), ([3], [3]), ([3], [3]), ([4, 5, 3, 3], [3, 4, 5]), ([6, 3], [3, 6]), ([3, 7], [3, 7]), ([8, 6], [8]), ([9], [9]), ([9], [9]), ([10, 11, 9, 9], [9, 10, 11]), ([12, 9], [9, 12]), ([9, 13], [9, 13]), ([14, 12], [14]), ([15], [15]), ([16, 15, 15], [15, 16]), ([15], [15]), ([17, 18, 17, 15], [15, 17, 18]), ([15, 19], [15, 19]), ([20, 19, 0, 1, 2, 3, 4, 5, 6, 7, 8, 9, 10, 11, 12, 13, 14, 15, 16, 17, 18, 19, 20], [20])])
def racewaylaw3_NetSames.B22 : List Nat := [0, 0, 3, 7, 15, 15, 63, 127, 255, 511, 1023, 1023, 4095, 8191, 16383, 32767, 65535, 131071, 65535, 524287, 1048575, 2097151]
theorem racewaylaw3_NetSames.tab22 : rtab .any (opsOf Try.f4 22) = racewaylaw3_NetSames.T22 := by kernel_rfl
theorem racewaylaw3_NetSames.bits22 : waitsOk racewaylaw3_NetSames.T22.2 racewaylaw3_NetSames.B22 = true := by kernel_rfl
set_option maxHeartbeats 8000000 in
set_option maxRecDepth 100000 in
theorem racewaylaw3_NetSames.calls (k : Nat) (a0 : Int) (a1 : Int) (A2 : Option Addr) (c2 : Nat) (l2 : List (S41)) (a3 : Int) (a4 : Int) (r : Bool) (w : World) (hr2 : Kd.C k41 w A2 l2.length l2) (hc2 : l2.length ≤ c2) (h : racewaylaw3_NetSames.f k a0 a1 l2 a3 a4 = some r) (hrT_ : Aside0 (r = true)) :
    Calls Try.prog 4 #[.int .i64 a0, .int .i64 a1, .slice A2 l2.length c2, .int .i64 a3, .int .i64 a4] w fun e w' => e = .returned (.bool r) ∧ Below w.heap.size w w' := by
  have hu26 := Try.underlying26
  have hu28 := Try.underlying28
  have HR2 := Aside0.mk hr2
  have HC2 := Aside0.mk hc2
  clear hr2 hc2
  have HB := Aside0.mk (Below.refl w.heap.size w)
  have H : ((racewaylaw3_shown.f).bind fun t138 => (if t138 = true then ((racewaylaw3_made.f k a0 a1 l2).bind fun bt139 => (if bt139.2.2.2.length < 5864062014805 then ((some (bt139.2.2.2 ++ [(⟨1, 2, 1⟩ : S28)] : List (S28))).bind fun y146 => ((net_Copy.f bt139.1 bt139.2.1 bt139.2.2.1 y146).bind fun bt149 => ((racewaylaw3_pick.f a3 (bt149.2.2.2.length : Int)).bind fun t156 => ((racewaylaw3_pick.f a4 7).bind fun t157 => (if t157 = 0 then (racewaylaw3_NetSames.j0 k bt139.1 bt139.2.1 bt139.2.2.1 y146 (wrap64 (bt149.1 + 1)) bt149.2.1 bt149.2.2.1 bt149.2.2.2) else (if t157 = 1 then (racewaylaw3_NetSames.j0 k bt139.1 bt139.2.1 bt139.2.2.1 y146 bt149.1 (wrap64 (bt149.2.1 + 1)) bt149.2.2.1 bt149.2.2.2) else (if t157 = 2 then (racewaylaw3_NetSames.j0 k bt139.1 bt139.2.1 bt139.2.2.1 y146 bt149.1 bt149.2.1 (wrap64 (bt149.2.2.1 - 1)) bt149.2.2.2) else (if t157 = 3 then (if 0 ≤ t156 then (if t156 < (bt149.2.2.2.length : Int) then (racewaylaw3_NetSames.j0 k bt139.1 bt139.2.1 bt139.2.2.1 y146 bt149.1 bt149.2.1 bt149.2.2.1 (bt149.2.2.2.set (t156 : Int).toNat (⟨wrap64 (((rd_T28 bt149.2.2.2 t156).f0) + 1), (rd_T28 bt149.2.2.2 t156).f1, (rd_T28 bt149.2.2.2 t156).f2⟩ : S28))) else (none)) else (none)) else (if t157 = 4 then (if 0 ≤ t156 then (if t156 < (bt149.2.2.2.length : Int) then (racewaylaw3_NetSames.j0 k bt139.1 bt139.2.1 bt139.2.2.1 y146 bt149.1 bt149.2.1 bt149.2.2.1 (bt149.2.2.2.set (t156 : Int).toNat (⟨(rd_T28 bt149.2.2.2 t156).f0, wrap64 (((rd_T28 bt149.2.2.2 t156).f1) - 1), (rd_T28 bt149.2.2.2 t156).f2⟩ : S28))) else (none)) else (none)) else (if t157 = 5 then (if 0 ≤ t156 then (if t156 < (bt149.2.2.2.length : Int) then (racewaylaw3_NetSames.j0 k bt139.1 bt139.2.1 bt139.2.2.1 y146 bt149.1 bt149.2.1 bt149.2.2.1 (bt149.2.2.2.set (t156 : Int).toNat (⟨(rd_T28 bt149.2.2.2 t156).f0, (rd_T28 bt149.2.2.2 t156).f1, wrap64 (((rd_T28 bt149.2.2.2 t156).f2) + 1)⟩ : S28))) else (none)) else (none)) else (if 1 ≤ (bt149.2.2.2.length : Int) then (racewaylaw3_NetSames.j0 k bt139.1 bt139.2.1 bt139.2.2.1 y146 bt149.1 bt149.2.1 bt149.2.2.1 (bt149.2.2.2.drop (1 : Int).toNat)) else (none)))))))))))) else (none))) else (some false))) = some r := h
  clear h
  replace H := Option.bind_eq_some_iff.mp H
  obtain ⟨t138, A60, H⟩ := H
  replace H : (if t138 = true then ((racewaylaw3_made.f k a0 a1 l2).bind fun bt139 => (if bt139.2.2.2.length < 5864062014805 then ((some (bt139.2.2.2 ++ [(⟨1, 2, 1⟩ : S28)] : List (S28))).bind fun y146 => ((net_Copy.f bt139.1 bt139.2.1 bt139.2.2.1 y146).bind fun bt149 => ((racewaylaw3_pick.f a3 (bt149.2.2.2.length : Int)).bind fun t156 => ((racewaylaw3_pick.f a4 7).bind fun t157 => (if t157 = 0 then (racewaylaw3_NetSames.j0 k bt139.1 bt139.2.1 bt139.2.2.1 y146 (wrap64 (bt149.1 + 1)) bt149.2.1 bt149.2.2.1 bt149.2.2.2) else (if t157 = 1 then (racewaylaw3_NetSames.j0 k bt139.1 bt139.2.1 bt139.2.2.1 y146 bt149.1 (wrap64 (bt149.2.1 + 1)) bt149.2.2.1 bt149.2.2.2) else (if t157 = 2 then (racewaylaw3_NetSames.j0 k bt139.1 bt139.2.1 bt139.2.2.1 y146 bt149.1 bt149.2.1 (wrap64 (bt149.2.2.1 - 1)) bt149.2.2.2) else (if t157 = 3 then (if 0 ≤ t156 then (if t156 < (bt149.2.2.2.length : Int) then (racewaylaw3_NetSames.j0 k bt139.1 bt139.2.1 bt139.2.2.1 y146 bt149.1 bt149.2.1 bt149.2.2.1 (bt149.2.2.2.set (t156 : Int).toNat (⟨wrap64 (((rd_T28 bt149.2.2.2 t156).f0) + 1), (rd_T28 bt149.2.2.2 t156).f1, (rd_T28 bt149.2.2.2 t156).f2⟩ : S28))) else (none)) else (none)) else (if t157 = 4 then (if 0 ≤ t156 then (if t156 < (bt149.2.2.2.length : Int) then (racewaylaw3_NetSames.j0 k bt139.1 bt139.2.1 bt139.2.2.1 y146 bt149.1 bt149.2.1 bt149.2.2.1 (bt149.2.2.2.set (t156 : Int).toNat (⟨(rd_T28 bt149.2.2.2 t156).f0, wrap64 (((rd_T28 bt149.2.2.2 t156).f1) - 1), (rd_T28 bt149.2.2.2 t156).f2⟩ : S28))) else (none)) else (none)) else (if t157 = 5 then (if 0 ≤ t156 then (if t156 < (bt149.2.2.2.length : Int) then (racewaylaw3_NetSames.j0 k bt139.1 bt139.2.1 bt139.2.2.1 y146 bt149.1 bt149.2.1 bt149.2.2.1 (bt149.2.2.2.set (t156 : Int).toNat (⟨(rd_T28 bt149.2.2.2 t156).f0, (rd_T28 bt149.2.2.2 t156).f1, wrap64 (((rd_T28 bt149.2.2.2 t156).f2) + 1)⟩ : S28))) else (none)) else (none)) else (if 1 ≤ (bt149.2.2.2.length : Int) then (racewaylaw3_NetSames.j0 k bt139.1 bt139.2.1 bt139.2.2.1 y146 bt149.1 bt149.2.1 bt149.2.2.1 (bt149.2.2.2.drop (1 : Int).toNat)) else (none)))))))))))) else (none))) else (some false)) = some r := H
  have A6 := Aside0.mk A60
  clear A60
  by_cases c7 : t138 = true
  · subst c7
    have H1 : ((racewaylaw3_made.f k a0 a1 l2).bind fun bt139 => (if bt139.2.2.2.length < 5864062014805 then ((some (bt139.2.2.2 ++ [(⟨1, 2, 1⟩ : S28)] : List (S28))).bind fun y146 => ((net_Copy.f bt139.1 bt139.2.1 bt139.2.2.1 y146).bind fun bt149 => ((racewaylaw3_pick.f a3 (bt149.2.2.2.length : Int)).bind fun t156 => ((racewaylaw3_pick.f a4 7).bind fun t157 => (if t157 = 0 then (racewaylaw3_NetSames.j0 k bt139.1 bt139.2.1 bt139.2.2.1 y146 (wrap64 (bt149.1 + 1)) bt149.2.1 bt149.2.2.1 bt149.2.2.2) else (if t157 = 1 then (racewaylaw3_NetSames.j0 k bt139.1 bt139.2.1 bt139.2.2.1 y146 bt149.1 (wrap64 (bt149.2.1 + 1)) bt149.2.2.1 bt149.2.2.2) else (if t157 = 2 then (racewaylaw3_NetSames.j0 k bt139.1 bt139.2.1 bt139.2.2.1 y146 bt149.1 bt149.2.1 (wrap64 (bt149.2.2.1 - 1)) bt149.2.2.2) else (if t157 = 3 then (if 0 ≤ t156 then (if t156 < (bt149.2.2.2.length : Int) then (racewaylaw3_NetSames.j0 k bt139.1 bt139.2.1 bt139.2.2.1 y146 bt149.1 bt149.2.1 bt149.2.2.1 (bt149.2.2.2.set (t156 : Int).toNat (⟨wrap64 (((rd_T28 bt149.2.2.2 t156).f0) + 1), (rd_T28 bt149.2.2.2 t156).f1, (rd_T28 bt149.2.2.2 t156).f2⟩ : S28))) else (none)) else (none)) else (if t157 = 4 then (if 0 ≤ t156 then (if t156 < (bt149.2.2.2.length : Int) then (racewaylaw3_NetSames.j0 k bt139.1 bt139.2.1 bt139.2.2.1 y146 bt149.1 bt149.2.1 bt149.2.2.1 (bt149.2.2.2.set (t156 : Int).toNat (⟨(rd_T28 bt149.2.2.2 t156).f0, wrap64 (((rd_T28 bt149.2.2.2 t156).f1) - 1), (rd_T28 bt149.2.2.2 t156).f2⟩ : S28))) else (none)) else (none)) else (if t157 = 5 then (if 0 ≤ t156 then (if t156 < (bt149.2.2.2.length : Int) then (racewaylaw3_NetSames.j0 k bt139.1 bt139.2.1 bt139.2.2.1 y146 bt149.1 bt149.2.1 bt149.2.2.1 (bt149.2.2.2.set (t156 : Int).toNat (⟨(rd_T28 bt149.2.2.2 t156).f0, (rd_T28 bt149.2.2.2 t156).f1, wrap64 (((rd_T28 bt149.2.2.2 t156).f2) + 1)⟩ : S28))) else (none)) else (none)) else (if 1 ≤ (bt149.2.2.2.length : Int) then (racewaylaw3_NetSames.j0 k bt139.1 bt139.2.1 bt139.2.2.1 y146 bt149.1 bt149.2.1 bt149.2.2.1 (bt149.2.2.2.drop (1 : Int).toNat)) else (none)))))))))))) else (none))) = some r := by rw [if_pos rfl] at H; exact H
    clear H
    have H := H1
    clear H1
    replace H := Option.bind_eq_some_iff.mp H
    obtain ⟨⟨t139, t140, t141, t142⟩, A80, H⟩ := H
    replace H : (if t142.length < 5864062014805 then ((some (t142 ++ [(⟨1, 2, 1⟩ : S28)] : List (S28))).bind fun y146 => ((net_Copy.f t139 t140 t141 y146).bind fun bt149 => ((racewaylaw3_pick.f a3 (bt149.2.2.2.length : Int)).bind fun t156 => ((racewaylaw3_pick.f a4 7).bind fun t157 => (if t157 = 0 then (racewaylaw3_NetSames.j0 k t139 t140 t141 y146 (wrap64 (bt149.1 + 1)) bt149.2.1 bt149.2.2.1 bt149.2.2.2) else (if t157 = 1 then (racewaylaw3_NetSames.j0 k t139 t140 t141 y146 bt149.1 (wrap64 (bt149.2.1 + 1)) bt149.2.2.1 bt149.2.2.2) else (if t157 = 2 then (racewaylaw3_NetSames.j0 k t139 t140 t141 y146 bt149.1 bt149.2.1 (wrap64 (bt149.2.2.1 - 1)) bt149.2.2.2) else (if t157 = 3 then (if 0 ≤ t156 then (if t156 < (bt149.2.2.2.length : Int) then (racewaylaw3_NetSames.j0 k t139 t140 t141 y146 bt149.1 bt149.2.1 bt149.2.2.1 (bt149.2.2.2.set (t156 : Int).toNat (⟨wrap64 (((rd_T28 bt149.2.2.2 t156).f0) + 1), (rd_T28 bt149.2.2.2 t156).f1, (rd_T28 bt149.2.2.2 t156).f2⟩ : S28))) else (none)) else (none)) else (if t157 = 4 then (if 0 ≤ t156 then (if t156 < (bt149.2.2.2.length : Int) then (racewaylaw3_NetSames.j0 k t139 t140 t141 y146 bt149.1 bt149.2.1 bt149.2.2.1 (bt149.2.2.2.set (t156 : Int).toNat (⟨(rd_T28 bt149.2.2.2 t156).f0, wrap64 (((rd_T28 bt149.2.2.2 t156).f1) - 1), (rd_T28 bt149.2.2.2 t156).f2⟩ : S28))) else (none)) else (none)) else (if t157 = 5 then (if 0 ≤ t156 then (if t156 < (bt149.2.2.2.length : Int) then (racewaylaw3_NetSames.j0 k t139 t140 t141 y146 bt149.1 bt149.2.1 bt149.2.2.1 (bt149.2.2.2.set (t156 : Int).toNat (⟨(rd_T28 bt149.2.2.2 t156).f0, (rd_T28 bt149.2.2.2 t156).f1, wrap64 (((rd_T28 bt149.2.2.2 t156).f2) + 1)⟩ : S28))) else (none)) else (none)) else (if 1 ≤ (bt149.2.2.2.length : Int) then (racewaylaw3_NetSames.j0 k t139 t140 t141 y146 bt149.1 bt149.2.1 bt149.2.2.1 (bt149.2.2.2.drop (1 : Int).toNat)) else (none)))))))))))) else (none)) = some r := H
    have A8 := Aside0.mk A80
    clear A80
    by_cases c9 : t142.length < 5864062014805
    · rw [if_pos c9] at H
      have LMc9 := Aside0.mk c9
      clear c9
      obtain ⟨y146, hy146⟩ : ∃ y_ : List (S28), y_ = (t142 ++ [(⟨1, 2, 1⟩ : S28)]) := ⟨_, rfl⟩
      replace H : ((net_Copy.f t139 t140 t141 y146).bind fun bt149 => ((racewaylaw3_pick.f a3 (bt149.2.2.2.length : Int)).bind fun t156 => ((racewaylaw3_pick.f a4 7).bind fun t157 => (if t157 = 0 then (racewaylaw3_NetSames.j0 k t139 t140 t141 y146 (wrap64 (bt149.1 + 1)) bt149.2.1 bt149.2.2.1 bt149.2.2.2) else (if t157 = 1 then (racewaylaw3_NetSames.j0 k t139 t140 t141 y146 bt149.1 (wrap64 (bt149.2.1 + 1)) bt149.2.2.1 bt149.2.2.2) else (if t157 = 2 then (racewaylaw3_NetSames.j0 k t139 t140 t141 y146 bt149.1 bt149.2.1 (wrap64 (bt149.2.2.1 - 1)) bt149.2.2.2) else (if t157 = 3 then (if 0 ≤ t156 then (if t156 < (bt149.2.2.2.length : Int) then (racewaylaw3_NetSames.j0 k t139 t140 t141 y146 bt149.1 bt149.2.1 bt149.2.2.1 (bt149.2.2.2.set (t156 : Int).toNat (⟨wrap64 (((rd_T28 bt149.2.2.2 t156).f0) + 1), (rd_T28 bt149.2.2.2 t156).f1, (rd_T28 bt149.2.2.2 t156).f2⟩ : S28))) else (none)) else (none)) else (if t157 = 4 then (if 0 ≤ t156 then (if t156 < (bt149.2.2.2.length : Int) then (racewaylaw3_NetSames.j0 k t139 t140 t141 y146 bt149.1 bt149.2.1 bt149.2.2.1 (bt149.2.2.2.set (t156 : Int).toNat (⟨(rd_T28 bt149.2.2.2 t156).f0, wrap64 (((rd_T28 bt149.2.2.2 t156).f1) - 1), (rd_T28 bt149.2.2.2 t156).f2⟩ : S28))) else (none)) else (none)) else (if t157 = 5 then (if 0 ≤ t156 then (if t156 < (bt149.2.2.2.length : Int) then (racewaylaw3_NetSames.j0 k t139 t140 t141 y146 bt149.1 bt149.2.1 bt149.2.2.1 (bt149.2.2.2.set (t156 : Int).toNat (⟨(rd_T28 bt149.2.2.2 t156).f0, (rd_T28 bt149.2.2.2 t156).f1, wrap64 (((rd_T28 bt149.2.2.2 t156).f2) + 1)⟩ : S28))) else (none)) else (none)) else (if 1 ≤ (bt149.2.2.2.length : Int) then (racewaylaw3_NetSames.j0 k t139 t140 t141 y146 bt149.1 bt149.2.1 bt149.2.2.1 (bt149.2.2.2.drop (1 : Int).toNat)) else (none))))))))))) = some r := by first | (rw [hy146]; with_reducible exact H) | (have H2_ := (Option.bind_some _ _).symm.trans H; rw [hy146]; with_reducible exact H2_) | (have H2_ := (Option.bind_some _ _).symm.trans H; with_reducible exact H2_) | with_reducible exact H | (rw [hy146]; exact H) | exact H
      have Ny146 := Aside0.mk hy146
      clear hy146
      replace H := Option.bind_eq_some_iff.mp H
      obtain ⟨⟨t149, t150, t151, t152⟩, A100, H⟩ := H
      replace H : ((racewaylaw3_pick.f a3 (t152.length : Int)).bind fun t156 => ((racewaylaw3_pick.f a4 7).bind fun t157 => (if t157 = 0 then (racewaylaw3_NetSames.j0 k t139 t140 t141 y146 (wrap64 (t149 + 1)) t150 t151 t152) else (if t157 = 1 then (racewaylaw3_NetSames.j0 k t139 t140 t141 y146 t149 (wrap64 (t150 + 1)) t151 t152) else (if t157 = 2 then (racewaylaw3_NetSames.j0 k t139 t140 t141 y146 t149 t150 (wrap64 (t151 - 1)) t152) else (if t157 = 3 then (if 0 ≤ t156 then (if t156 < (t152.length : Int) then (racewaylaw3_NetSames.j0 k t139 t140 t141 y146 t149 t150 t151 (t152.set (t156 : Int).toNat (⟨wrap64 (((rd_T28 t152 t156).f0) + 1), (rd_T28 t152 t156).f1, (rd_T28 t152 t156).f2⟩ : S28))) else (none)) else (none)) else (if t157 = 4 then (if 0 ≤ t156 then (if t156 < (t152.length : Int) then (racewaylaw3_NetSames.j0 k t139 t140 t141 y146 t149 t150 t151 (t152.set (t156 : Int).toNat (⟨(rd_T28 t152 t156).f0, wrap64 (((rd_T28 t152 t156).f1) - 1), (rd_T28 t152 t156).f2⟩ : S28))) else (none)) else (none)) else (if t157 = 5 then (if 0 ≤ t156 then (if t156 < (t152.length : Int) then (racewaylaw3_NetSames.j0 k t139 t140 t141 y146 t149 t150 t151 (t152.set (t156 : Int).toNat (⟨(rd_T28 t152 t156).f0, (rd_T28 t152 t156).f1, wrap64 (((rd_T28 t152 t156).f2) + 1)⟩ : S28))) else (none)) else (none)) else (if 1 ≤ (t152.length : Int) then (racewaylaw3_NetSames.j0 k t139 t140 t141 y146 t149 t150 t151 (t152.drop (1 : Int).toNat)) else (none)))))))))) = some r := H
      have A10 := Aside0.mk A100
      clear A100
      replace H := Option.bind_eq_some_iff.mp H
      obtain ⟨t156, A110, H⟩ := H
      replace H : ((racewaylaw3_pick.f a4 7).bind fun t157 => (if t157 = 0 then (racewaylaw3_NetSames.j0 k t139 t140 t141 y146 (wrap64 (t149 + 1)) t150 t151 t152) else (if t157 = 1 then (racewaylaw3_NetSames.j0 k t139 t140 t141 y146 t149 (wrap64 (t150 + 1)) t151 t152) else (if t157 = 2 then (racewaylaw3_NetSames.j0 k t139 t140 t141 y146 t149 t150 (wrap64 (t151 - 1)) t152) else (if t157 = 3 then (if 0 ≤ t156 then (if t156 < (t152.length : Int) then (racewaylaw3_NetSames.j0 k t139 t140 t141 y146 t149 t150 t151 (t152.set (t156 : Int).toNat (⟨wrap64 (((rd_T28 t152 t156).f0) + 1), (rd_T28 t152 t156).f1, (rd_T28 t152 t156).f2⟩ : S28))) else (none)) else (none)) else (if t157 = 4 then (if 0 ≤ t156 then (if t156 < (t152.length : Int) then (racewaylaw3_NetSames.j0 k t139 t140 t141 y146 t149 t150 t151 (t152.set (t156 : Int).toNat (⟨(rd_T28 t152 t156).f0, wrap64 (((rd_T28 t152 t156).f1) - 1), (rd_T28 t152 t156).f2⟩ : S28))) else (none)) else (none)) else (if t157 = 5 then (if 0 ≤ t156 then (if t156 < (t152.length : Int) then (racewaylaw3_NetSames.j0 k t139 t140 t141 y146 t149 t150 t151 (t152.set (t156 : Int).toNat (⟨(rd_T28 t152 t156).f0, (rd_T28 t152 t156).f1, wrap64 (((rd_T28 t152 t156).f2) + 1)⟩ : S28))) else (none)) else (none)) else (if 1 ≤ (t152.length : Int) then (racewaylaw3_NetSames.j0 k t139 t140 t141 y146 t149 t150 t151 (t152.drop (1 : Int).toNat)) else (none))))))))) = some r := H
      have A11 := Aside0.mk A110
      clear A110
      replace H := Option.bind_eq_some_iff.mp H
      obtain ⟨t157, A120, H⟩ := H
      replace H : (if t157 = 0 then (racewaylaw3_NetSames.j0 k t139 t140 t141 y146 (wrap64 (t149 + 1)) t150 t151 t152) else (if t157 = 1 then (racewaylaw3_NetSames.j0 k t139 t140 t141 y146 t149 (wrap64 (t150 + 1)) t151 t152) else (if t157 = 2 then (racewaylaw3_NetSames.j0 k t139 t140 t141 y146 t149 t150 (wrap64 (t151 - 1)) t152) else (if t157 = 3 then (if 0 ≤ t156 then (if t156 < (t152.length : Int) then (racewaylaw3_NetSames.j0 k t139 t140 t141 y146 t149 t150 t151 (t152.set (t156 : Int).toNat (⟨wrap64 (((rd_T28 t152 t156).f0) + 1), (rd_T28 t152 t156).f1, (rd_T28 t152 t156).f2⟩ : S28))) else (none)) else (none)) else (if t157 = 4 then (if 0 ≤ t156 then (if t156 < (t152.length : Int) then (racewaylaw3_NetSames.j0 k t139 t140 t141 y146 t149 t150 t151 (t152.set (t156 : Int).toNat (⟨(rd_T28 t152 t156).f0, wrap64 (((rd_T28 t152 t156).f1) - 1), (rd_T28 t152 t156).f2⟩ : S28))) else (none)) else (none)) else (if t157 = 5 then (if 0 ≤ t156 then (if t156 < (t152.length : Int) then (racewaylaw3_NetSames.j0 k t139 t140 t141 y146 t149 t150 t151 (t152.set (t156 : Int).toNat (⟨(rd_T28 t152 t156).f0, (rd_T28 t152 t156).f1, wrap64 (((rd_T28 t152 t156).f2) + 1)⟩ : S28))) else (none)) else (none)) else (if 1 ≤ (t152.length : Int) then (racewaylaw3_NetSames.j0 k t139 t140 t141 y146 t149 t150 t151 (t152.drop (1 : Int).toNat)) else (none)))))))) = some r := H
      have A12 := Aside0.mk A120
      clear A120
      have HC13 := Aside0.mk H
      clear H
      go_enter Try.func4, Try.ntmps4
      go_upto_block 0 with (first | ((with_reducible refine gate_callee (f := 14) rfl ?_); refine goesL_ (some 15) rfl rfl Try.func14 (by kernel_rfl) rfl #[] rfl (by (try simp only [List.map_toArray, List.map_cons, List.map_nil]); first | done | rfl | (simp only [List.length_drop, List.length_take]; rfl)) ?_; (with_reducible refine (racewaylaw3_shown.calls  true _ A6.out).mono ?_); rintro e w14 ⟨rfl, hb⟩; refine ⟨_, rfl, ?_⟩; have n0_ := Aside0.mk (below_step (by repeat (first | (with_reducible first | exact HB.out | apply below_alloc | apply pw_below_drewN | apply below_drew1) | exact HB.out)) hb); clear HB; have HB := n0_; clear n0_; (try clear hb); (try clear hb2); (try clear hk); (try clear hi)) | ((with_reducible refine gate_callee (f := 17) rfl ?_); refine goesL_ (some 21) rfl rfl Try.func17 (by kernel_rfl) rfl #[.int .i64 a0, .int .i64 a1, .slice A2 l2.length c2] rfl (by (try simp only [List.map_toArray, List.map_cons, List.map_nil]); first | done | rfl | (simp only [List.length_drop, List.length_take]; rfl)) ?_; (with_reducible refine (racewaylaw3_made.calls k a0 a1 _ _ l2 t139 t140 t141 t142 _ ?side1 ?side2 A8.out).mono ?_); (case side1 => repeat (first | exact (Kd.C_below HR2.out HB.out) | (with_reducible refine Kd.C_alloc ?_ _) | (with_reducible refine Kd.C_drewN ?_ _) | (with_reducible refine Kd.C_drew ?_))); (case side2 => exact HC2.out); rintro e w15 ⟨v143, rfl, ho0, hb⟩; refine ⟨_, rfl, ?_⟩; have n0_ := Aside0.mk (Kd.R_lower ho0 (below_size (by repeat (first | (with_reducible first | exact HB.out | apply below_alloc | apply pw_below_drewN | apply below_drew1) | exact HB.out)))); have n1_ := Aside0.mk (below_step (by repeat (first | (with_reducible first | exact HB.out | apply below_alloc | apply pw_below_drewN | apply below_drew1) | exact HB.out)) hb); clear HB; have HO144 := n0_; have HB := n1_; clear n0_ n1_; (try clear hb); (try clear hb2); (try clear hk); (try clear hi); (try clear ho0)) | ((with_reducible refine gate_dst (N := 12) rfl ?_); refine box_event ?hg (N := 12) ?hd (cs := #[.int .i64 0, .int .i64 0, .int .i64 0, .slice none 0 0]) (t := 26) ?hr ?_; (case hd => rfl); (case hg => rfl); (case hr => first | (go_simp; done) | (go_simp; rfl)); intro gb145 hg w16 hbox hb; have n0_ := Aside0.mk (Kd.R_below (by (with_reducible repeat (first | apply Kd.R_alloc | apply Kd.R_drewN | apply Kd.R_drew)); exact HO144.out) hb); have n1_ := Aside0.mk (below_step (by repeat (first | (with_reducible first | exact HB.out | apply below_alloc | apply pw_below_drewN | apply below_drew1) | exact HB.out)) hb); have n2_ := Aside0.mk (hbox); have n3_ := Aside0.mk ((by rw [hg]; exact (below_size (by repeat (first | (with_reducible first | exact HB.out | apply below_alloc | apply pw_below_drewN | apply below_drew1) | exact HB.out))) : w.heap.size ≤ gb145)); have n4_ := Aside0.mk ((by rw [hg]; exact (below_size (by repeat (first | (with_reducible first | exact HB.out | apply below_alloc | apply pw_below_drewN | apply below_drew1) | exact HB.out))) : w.heap.size ≤ gb145)); clear HO144; clear HB; have HO144 := n0_; have HB := n1_; have BK145 := n2_; have GW145 := n3_; have GE145 := n4_; clear n0_ n1_ n2_ n3_ n4_; clear hb hbox hg; have hcz17_0 : w16.cell? ⟨gb145, 0, none⟩ = some (.int .i64 0) := (blk_cell BK145.out 0).trans rfl; have hcz17_1 : w16.cell? ⟨gb145, 1, none⟩ = some (.int .i64 0) := (blk_cell BK145.out 1).trans rfl; have hcz17_2 : w16.cell? ⟨gb145, 2, none⟩ = some (.int .i64 0) := (blk_cell BK145.out 2).trans rfl; have hcz17_3 : w16.cell? ⟨gb145, 3, none⟩ = some (.slice none 0 0) := (blk_cell BK145.out 3).trans rfl; have hfz17_0 := blk_frozen BK145.out 0; have hfz17_1 := blk_frozen BK145.out 1; have hfz17_2 := blk_frozen BK145.out 2; have hfz17_3 := blk_frozen BK145.out 3; obtain ⟨Ao18, co18, eo18⟩ := Kd.R_slice HO144.out; subst eo18) | ((with_reducible refine gate_store (t := 26) (p := 12) rfl ?_); refine store_event (t := 26) (p := 12) (v := ?vo_w19) (w1 := ((((w16.setCell ⟨gb145, 0, none⟩ (.int .i64 t139)).setCell ⟨gb145, 1, none⟩ (.int .i64 t140)).setCell ⟨gb145, 2, none⟩ (.int .i64 t141)).setCell ⟨gb145, 3, none⟩ (.slice Ao18 t142.length co18))) ?hg ?ho ?hn ?hr ?_; (case ho => rfl); (case hg => rfl); (case hn => rfl); (case hr => first | (go_simp; done) | (go_simp; rfl)); intro w19 hw; have n0_ : Aside0 (Kd.R k28 28 w19 w.heap.size (fun _ => True) (.slice Ao18 t142.length co18) t142) := ⟨(by rw [hw]; exact (by (with_reducible repeat (first | apply Kd.R_alloc | apply Kd.R_drewN | apply Kd.R_drew)); exact Kd.R_mono (Kd.R_far (p := ⟨gb145, 3, none⟩) (Kd.R_far (p := ⟨gb145, 2, none⟩) (Kd.R_far (p := ⟨gb145, 1, none⟩) (Kd.R_far (p := ⟨gb145, 0, none⟩) (Kd.R_types HO144.out BK145.out (by decide)) (fun _ hk => hk.2) (.int .i64 t139)) (fun _ hk => hk.2) (.int .i64 t140)) (fun _ hk => hk.2) (.int .i64 t141)) (fun _ hk => hk.2) (.slice Ao18 t142.length co18)) (fun _ hk => trivial)))⟩; have n1_ : Aside0 (w19.heap[gb145]? = some (.cells #[.int .i64 t139, .int .i64 t140, .int .i64 t141, .slice Ao18 t142.length co18] 26 (0, 0))) := ⟨(by rw [hw]; exact (by (with_reducible repeat (first | refine blk_drewN ?_ _ | refine blk_drew ?_ | refine blk_alloc ?_ _)); refine blk_put (cs := #[.int .i64 t139, .int .i64 t140, .int .i64 t141, .slice none 0 0]) ?_ 3 _ rfl; (with_reducible repeat (first | refine blk_drewN ?_ _ | refine blk_drew ?_ | refine blk_alloc ?_ _)); refine blk_put (cs := #[.int .i64 t139, .int .i64 t140, .int .i64 0, .slice none 0 0]) ?_ 2 _ rfl; (with_reducible repeat (first | refine blk_drewN ?_ _ | refine blk_drew ?_ | refine blk_alloc ?_ _)); refine blk_put (cs := #[.int .i64 t139, .int .i64 0, .int .i64 0, .slice none 0 0]) ?_ 1 _ rfl; (with_reducible repeat (first | refine blk_drewN ?_ _ | refine blk_drew ?_ | refine blk_alloc ?_ _)); refine blk_put (cs := #[.int .i64 0, .int .i64 0, .int .i64 0, .slice none 0 0]) ?_ 0 _ rfl; (with_reducible repeat (first | refine blk_drewN ?_ _ | refine blk_drew ?_ | refine blk_alloc ?_ _)); exact BK145.out))⟩; have n2_ : Aside0 (Below w.heap.size w w19) := ⟨(by rw [hw]; exact (by repeat (first | (with_reducible first | exact HB.out | apply below_alloc | apply pw_below_drewN | apply below_drew1 | refine below_set ?_ GE145.out) | exact HB.out)))⟩; clear hw; clear HO144; clear BK145; clear HB; have HO144 := n0_; have BK145 := n1_; have HB := n2_; clear n0_ n1_ n2_; have hcz20_0 : w19.cell? ⟨gb145, 0, none⟩ = some (.int .i64 t139) := (blk_cell BK145.out 0).trans rfl; have hcz20_1 : w19.cell? ⟨gb145, 1, none⟩ = some (.int .i64 t140) := (blk_cell BK145.out 1).trans rfl; have hcz20_2 : w19.cell? ⟨gb145, 2, none⟩ = some (.int .i64 t141) := (blk_cell BK145.out 2).trans rfl; have hcz20_3 : w19.cell? ⟨gb145, 3, none⟩ = some (.slice Ao18 t142.length co18) := (blk_cell BK145.out 3).trans rfl; have hfz20_0 := blk_frozen BK145.out 0; have hfz20_1 := blk_frozen BK145.out 1; have hfz20_2 := blk_frozen BK145.out 2; have hfz20_3 := blk_frozen BK145.out 3) | ((with_reducible refine gate_builtin (b := .append) (xs := #[.tmp 23, .tmp 25]) rfl ?_); at_builtin; refine Kd.R_append k28 (w0 := w) w.heap.size rfl (.tmp 23) (.tmp 25) 24 28 (.agg #[(.int .i64 0), (.int .i64 0), (.int .i64 0)]) 24 rfl Try.underlying24 info28 rfl (by decide) (by omega) (.slice Ao18 t142.length co18) t142 (⟨1, 2, 1⟩ : S28) [.int .i64 1, .int .i64 2, .int .i64 1] (fun _ => True) (fun _ => False) rfl rfl ?aP (fun _ hk => hk.elim) ?aF ?aO ?aB ?aS ?aL ?_; (case aP => exact k28_mkM _ _ _ (⟨1, 2, 1⟩ : S28)); (case aB => exact (by repeat (first | (with_reducible first | exact HB.out | apply below_alloc | apply pw_below_drewN | apply below_drew1 | refine below_set ?_ GE145.out) | exact HB.out))); (case aF => exact (fun _ _ => trivial)); (case aO => exact (by (with_reducible repeat (first | apply Kd.R_alloc | apply Kd.R_drewN | apply Kd.R_drew)); exact HO144.out)); (case aS => exact (below_size (by repeat (first | (with_reducible first | exact HB.out | apply below_alloc | apply pw_below_drewN | apply below_drew1 | refine below_set ?_ GE145.out) | exact HB.out)))); (case aL => have := LMc9.out; omega); intro v147 w21 ho hb hg hat; rw [← Ny146.out] at ho; have n0_ := Aside0.mk (blk_grown (g := gb145) (o := .cells #[.int .i64 t139, .int .i64 t140, .int .i64 t141, .slice Ao18 t142.length co18] 26 (0, 0)) (by (with_reducible repeat (first | refine blk_drewN ?_ _ | refine blk_drew ?_ | refine blk_alloc ?_ _)); exact BK145.out) hg (Kd.R_ne HO144.out BK145.out (by decide))); have n1_ := Aside0.mk (hb); have n2_ := Aside0.mk (ho); clear BK145; clear HB; clear HO144; have BK145 := n0_; have HB := n1_; have HO148 := n2_; clear n0_ n1_ n2_; clear ho hb hg hat; obtain ⟨Ao22, co22, eo22⟩ := Kd.R_slice HO148.out; subst eo22; have hcz23_0 : w21.cell? ⟨gb145, 0, none⟩ = some (.int .i64 t139) := (blk_cell BK145.out 0).trans rfl; have hcz23_1 : w21.cell? ⟨gb145, 1, none⟩ = some (.int .i64 t140) := (blk_cell BK145.out 1).trans rfl; have hcz23_2 : w21.cell? ⟨gb145, 2, none⟩ = some (.int .i64 t141) := (blk_cell BK145.out 2).trans rfl; have hcz23_3 : w21.cell? ⟨gb145, 3, none⟩ = some (.slice Ao18 t142.length co18) := (blk_cell BK145.out 3).trans rfl; have hfz23_0 := blk_frozen BK145.out 0; have hfz23_1 := blk_frozen BK145.out 1; have hfz23_2 := blk_frozen BK145.out 2; have hfz23_3 := blk_frozen BK145.out 3) | ((with_reducible refine gate_store (t := 24) (p := 27) rfl ?_); refine store_event (t := 24) (p := 27) (v := ?vo_w24) (w1 := (w21.setCell ⟨gb145, 3, none⟩ (.slice Ao22 y146.length co22))) ?hg ?ho ?hn ?hr ?_; (case ho => rfl); (case hg => rfl); (case hn => rfl); (case hr => first | (go_simp; done) | (go_simp; rfl)); intro w24 hw; have n0_ : Aside0 (Kd.R k28 28 w24 w.heap.size (fun _ => True) (.slice Ao22 y146.length co22) y146) := ⟨(by rw [hw]; exact (by (with_reducible repeat (first | apply Kd.R_alloc | apply Kd.R_drewN | apply Kd.R_drew)); exact Kd.R_mono (Kd.R_far (p := ⟨gb145, 3, none⟩) (Kd.R_types HO148.out BK145.out (by decide)) (fun _ hk => hk.2) (.slice Ao22 y146.length co22)) (fun _ hk => trivial)))⟩; have n1_ : Aside0 (w24.heap[gb145]? = some (.cells #[.int .i64 t139, .int .i64 t140, .int .i64 t141, .slice Ao22 y146.length co22] 26 (0, 0))) := ⟨(by rw [hw]; exact (by (with_reducible repeat (first | refine blk_drewN ?_ _ | refine blk_drew ?_ | refine blk_alloc ?_ _)); refine blk_put (cs := #[.int .i64 t139, .int .i64 t140, .int .i64 t141, .slice Ao18 t142.length co18]) ?_ 3 _ rfl; (with_reducible repeat (first | refine blk_drewN ?_ _ | refine blk_drew ?_ | refine blk_alloc ?_ _)); exact BK145.out))⟩; have n2_ : Aside0 (Below w.heap.size w w24) := ⟨(by rw [hw]; exact (by repeat (first | (with_reducible first | exact HB.out | apply below_alloc | apply pw_below_drewN | apply below_drew1 | refine below_set ?_ GE145.out) | exact HB.out)))⟩; clear hw; clear HO148; clear BK145; clear HB; have HO148 := n0_; have BK145 := n1_; have HB := n2_; clear n0_ n1_ n2_; have hcz25_0 : w24.cell? ⟨gb145, 0, none⟩ = some (.int .i64 t139) := (blk_cell BK145.out 0).trans rfl; have hcz25_1 : w24.cell? ⟨gb145, 1, none⟩ = some (.int .i64 t140) := (blk_cell BK145.out 1).trans rfl; have hcz25_2 : w24.cell? ⟨gb145, 2, none⟩ = some (.int .i64 t141) := (blk_cell BK145.out 2).trans rfl; have hcz25_3 : w24.cell? ⟨gb145, 3, none⟩ = some (.slice Ao22 y146.length co22) := (blk_cell BK145.out 3).trans rfl; have hfz25_0 := blk_frozen BK145.out 0; have hfz25_1 := blk_frozen BK145.out 1; have hfz25_2 := blk_frozen BK145.out 2; have hfz25_3 := blk_frozen BK145.out 3) | ((with_reducible refine gate_callee (f := 18) rfl ?_); refine goesL_ (some 29) rfl rfl Try.func18 (by kernel_rfl) rfl #[.agg #[.int .i64 t139, .int .i64 t140, .int .i64 t141, .slice Ao22 y146.length co22]] rfl (by (try simp only [List.map_toArray, List.map_cons, List.map_nil]); first | done | rfl | (simp only [List.length_drop, List.length_take]; rfl)) ?_; (with_reducible refine (net_Copy.calls t139 t140 t141 _ _ y146 t149 t150 t151 t152 _ ?side1 ?side2 A10.out).mono ?_); (case side1 => repeat (first | exact (Kd.R_reads' HO148.out).2.2 | (with_reducible refine Kd.C_alloc ?_ _) | (with_reducible refine Kd.C_drewN ?_ _) | (with_reducible refine Kd.C_drew ?_))); (case side2 => exact (Kd.R_reads' HO148.out).2.1); rintro e w26 ⟨v153, rfl, ho0, hb⟩; refine ⟨_, rfl, ?_⟩; have n0_ := Aside0.mk (Kd.R_elder' (by (with_reducible repeat (first | apply Kd.R_alloc | apply Kd.R_drewN | apply Kd.R_drew)); exact HO148.out) (Kd.R_base ho0) hb); have n1_ := Aside0.mk (Kd.R_lower (Kd.R_new' ho0 (Kd.R_lt (by (with_reducible repeat (first | apply Kd.R_alloc | apply Kd.R_drewN | apply Kd.R_drew)); exact HO148.out))) (below_size (by repeat (first | (with_reducible first | exact HB.out | apply below_alloc | apply pw_below_drewN | apply below_drew1 | refine below_set ?_ GE145.out) | exact HB.out)))); have n2_ := Aside0.mk (blk_below (g := gb145) (o := .cells #[.int .i64 t139, .int .i64 t140, .int .i64 t141, .slice Ao22 y146.length co22] 26 (0, 0)) (by (with_reducible repeat (first | refine blk_drewN ?_ _ | refine blk_drew ?_ | refine blk_alloc ?_ _)); exact BK145.out) hb); have n3_ := Aside0.mk (below_step (by repeat (first | (with_reducible first | exact HB.out | apply below_alloc | apply pw_below_drewN | apply below_drew1 | refine below_set ?_ GE145.out) | exact HB.out)) hb); clear HO148; clear BK145; clear HB; have HO148 := n0_; have HO154 := n1_; have BK145 := n2_; have HB := n3_; clear n0_ n1_ n2_ n3_; (try clear hb); (try clear hb2); (try clear hk); (try clear hi); (try clear ho0)) | ((with_reducible refine gate_dst (N := 13) rfl ?_); refine box_event ?hg (N := 13) ?hd (cs := #[.int .i64 0, .int .i64 0, .int .i64 0, .slice none 0 0]) (t := 26) ?hr ?_; (case hd => rfl); (case hg => rfl); (case hr => first | (go_simp; done) | (go_simp; rfl)); intro gb155 hg w27 hbox hb; have n0_ := Aside0.mk (Kd.R_below (by (with_reducible repeat (first | apply Kd.R_alloc | apply Kd.R_drewN | apply Kd.R_drew)); exact HO148.out) hb); have n1_ := Aside0.mk (Kd.R_below (by (with_reducible repeat (first | apply Kd.R_alloc | apply Kd.R_drewN | apply Kd.R_drew)); exact HO154.out) hb); have n2_ := Aside0.mk (blk_below (g := gb145) (o := .cells #[.int .i64 t139, .int .i64 t140, .int .i64 t141, .slice Ao22 y146.length co22] 26 (0, 0)) (by (with_reducible repeat (first | refine blk_drewN ?_ _ | refine blk_drew ?_ | refine blk_alloc ?_ _)); exact BK145.out) hb); have n3_ := Aside0.mk (below_step (by repeat (first | (with_reducible first | exact HB.out | apply below_alloc | apply pw_below_drewN | apply below_drew1 | refine below_set ?_ GE145.out) | exact HB.out)) hb); have n4_ := Aside0.mk (hbox); have n5_ := Aside0.mk ((by rw [hg]; exact (below_size (by repeat (first | (with_reducible first | exact HB.out | apply below_alloc | apply pw_below_drewN | apply below_drew1 | refine below_set ?_ GE145.out) | exact HB.out))) : w.heap.size ≤ gb155)); have n6_ := Aside0.mk ((by rw [hg]; exact (below_size (by repeat (first | (with_reducible first | exact HB.out | apply below_alloc | apply pw_below_drewN | apply below_drew1 | refine below_set ?_ GE145.out) | exact HB.out))) : w.heap.size ≤ gb155)); have n7_ := Aside0.mk ((by rw [hg]; exact Nat.ne_of_lt (blk_lt (g := gb145) (o := .cells #[.int .i64 t139, .int .i64 t140, .int .i64 t141, .slice Ao22 y146.length co22] 26 (0, 0)) (by (with_reducible repeat (first | refine blk_drewN ?_ _ | refine blk_drew ?_ | refine blk_alloc ?_ _)); exact BK145.out)) : gb145 ≠ gb155)); have n8_ := Aside0.mk ((by rw [hg]; exact Nat.ne_of_gt (blk_lt (g := gb145) (o := .cells #[.int .i64 t139, .int .i64 t140, .int .i64 t141, .slice Ao22 y146.length co22] 26 (0, 0)) (by (with_reducible repeat (first | refine blk_drewN ?_ _ | refine blk_drew ?_ | refine blk_alloc ?_ _)); exact BK145.out)) : gb155 ≠ gb145)); clear HO148; clear HO154; clear BK145; clear HB; have HO148 := n0_; have HO154 := n1_; have BK145 := n2_; have HB := n3_; have BK155 := n4_; have GW155 := n5_; have GE155 := n6_; have NB145_155 := n7_; have NB155_145 := n8_; clear n0_ n1_ n2_ n3_ n4_ n5_ n6_ n7_ n8_; clear hb hbox hg; have hnb28 := NB155_145.out; have hnc28 := NB145_155.out; have hcz29_0 : w27.cell? ⟨gb155, 0, none⟩ = some (.int .i64 0) := (blk_cell BK155.out 0).trans rfl; have hcz29_1 : w27.cell? ⟨gb155, 1, none⟩ = some (.int .i64 0) := (blk_cell BK155.out 1).trans rfl; have hcz29_2 : w27.cell? ⟨gb155, 2, none⟩ = some (.int .i64 0) := (blk_cell BK155.out 2).trans rfl; have hcz29_3 : w27.cell? ⟨gb155, 3, none⟩ = some (.slice none 0 0) := (blk_cell BK155.out 3).trans rfl; have hfz29_0 := blk_frozen BK155.out 0; have hfz29_1 := blk_frozen BK155.out 1; have hfz29_2 := blk_frozen BK155.out 2; have hfz29_3 := blk_frozen BK155.out 3; obtain ⟨Ao30, co30, eo30⟩ := Kd.R_slice HO154.out; subst eo30) | ((with_reducible refine gate_store (t := 26) (p := 13) rfl ?_); refine store_event (t := 26) (p := 13) (v := ?vo_w31) (w1 := ((((w27.setCell ⟨gb155, 0, none⟩ (.int .i64 t149)).setCell ⟨gb155, 1, none⟩ (.int .i64 t150)).setCell ⟨gb155, 2, none⟩ (.int .i64 t151)).setCell ⟨gb155, 3, none⟩ (.slice Ao30 t152.length co30))) ?hg ?ho ?hn ?hr ?_; (case ho => rfl); (case hg => rfl); (case hn => rfl); (case hr => first | (go_simp; done) | (go_simp; rfl)); intro w31 hw; have n0_ : Aside0 (Kd.R k28 28 w31 w.heap.size (fun k_ => some k_ ≠ (.slice Ao30 t152.length co30 : Value).ownBlock) (.slice Ao22 y146.length co22) y146) := ⟨(by rw [hw]; exact (by (with_reducible repeat (first | apply Kd.R_alloc | apply Kd.R_drewN | apply Kd.R_drew)); exact Kd.R_mono (Kd.R_far (p := ⟨gb155, 3, none⟩) (Kd.R_far (p := ⟨gb155, 2, none⟩) (Kd.R_far (p := ⟨gb155, 1, none⟩) (Kd.R_far (p := ⟨gb155, 0, none⟩) (Kd.R_types HO148.out BK155.out (by decide)) (fun _ hk => hk.2) (.int .i64 t149)) (fun _ hk => hk.2) (.int .i64 t150)) (fun _ hk => hk.2) (.int .i64 t151)) (fun _ hk => hk.2) (.slice Ao30 t152.length co30)) (fun _ hk => hk.1.2)))⟩; have n1_ : Aside0 (Kd.R k28 28 w31 w.heap.size (fun k_ => some k_ ≠ (.slice Ao22 y146.length co22 : Value).ownBlock) (.slice Ao30 t152.length co30) t152) := ⟨(by rw [hw]; exact (by (with_reducible repeat (first | apply Kd.R_alloc | apply Kd.R_drewN | apply Kd.R_drew)); exact Kd.R_mono (Kd.R_far (p := ⟨gb155, 3, none⟩) (Kd.R_far (p := ⟨gb155, 2, none⟩) (Kd.R_far (p := ⟨gb155, 1, none⟩) (Kd.R_far (p := ⟨gb155, 0, none⟩) (Kd.R_types HO154.out BK155.out (by decide)) (fun _ hk => hk.2) (.int .i64 t149)) (fun _ hk => hk.2) (.int .i64 t150)) (fun _ hk => hk.2) (.int .i64 t151)) (fun _ hk => hk.2) (.slice Ao30 t152.length co30)) (fun _ hk => hk.1.2)))⟩; have n2_ : Aside0 (w31.heap[gb145]? = some (.cells #[.int .i64 t139, .int .i64 t140, .int .i64 t141, .slice Ao22 y146.length co22] 26 (0, 0))) := ⟨(by rw [hw]; exact (by (with_reducible repeat (first | refine blk_drewN ?_ _ | refine blk_drew ?_ | refine blk_alloc ?_ _)); refine blk_far ?_ NB145_155.out _; (with_reducible repeat (first | refine blk_drewN ?_ _ | refine blk_drew ?_ | refine blk_alloc ?_ _)); refine blk_far ?_ NB145_155.out _; (with_reducible repeat (first | refine blk_drewN ?_ _ | refine blk_drew ?_ | refine blk_alloc ?_ _)); refine blk_far ?_ NB145_155.out _; (with_reducible repeat (first | refine blk_drewN ?_ _ | refine blk_drew ?_ | refine blk_alloc ?_ _)); refine blk_far ?_ NB145_155.out _; (with_reducible repeat (first | refine blk_drewN ?_ _ | refine blk_drew ?_ | refine blk_alloc ?_ _)); exact BK145.out))⟩; have n3_ : Aside0 (w31.heap[gb155]? = some (.cells #[.int .i64 t149, .int .i64 t150, .int .i64 t151, .slice Ao30 t152.length co30] 26 (0, 0))) := ⟨(by rw [hw]; exact (by (with_reducible repeat (first | refine blk_drewN ?_ _ | refine blk_drew ?_ | refine blk_alloc ?_ _)); refine blk_put (cs := #[.int .i64 t149, .int .i64 t150, .int .i64 t151, .slice none 0 0]) ?_ 3 _ rfl; (with_reducible repeat (first | refine blk_drewN ?_ _ | refine blk_drew ?_ | refine blk_alloc ?_ _)); refine blk_put (cs := #[.int .i64 t149, .int .i64 t150, .int .i64 0, .slice none 0 0]) ?_ 2 _ rfl; (with_reducible repeat (first | refine blk_drewN ?_ _ | refine blk_drew ?_ | refine blk_alloc ?_ _)); refine blk_put (cs := #[.int .i64 t149, .int .i64 0, .int .i64 0, .slice none 0 0]) ?_ 1 _ rfl; (with_reducible repeat (first | refine blk_drewN ?_ _ | refine blk_drew ?_ | refine blk_alloc ?_ _)); refine blk_put (cs := #[.int .i64 0, .int .i64 0, .int .i64 0, .slice none 0 0]) ?_ 0 _ rfl; (with_reducible repeat (first | refine blk_drewN ?_ _ | refine blk_drew ?_ | refine blk_alloc ?_ _)); exact BK155.out))⟩; have n4_ : Aside0 (Below w.heap.size w w31) := ⟨(by rw [hw]; exact (by repeat (first | (with_reducible first | exact HB.out | apply below_alloc | apply pw_below_drewN | apply below_drew1 | refine below_set ?_ GE145.out | refine below_set ?_ GE155.out) | exact HB.out)))⟩; clear hw; clear HO148; clear HO154; clear BK145; clear BK155; clear HB; have HO148 := n0_; have HO154 := n1_; have BK145 := n2_; have BK155 := n3_; have HB := n4_; clear n0_ n1_ n2_ n3_ n4_; have hcz32_0 : w31.cell? ⟨gb155, 0, none⟩ = some (.int .i64 t149) := (blk_cell BK155.out 0).trans rfl; have hcz32_1 : w31.cell? ⟨gb155, 1, none⟩ = some (.int .i64 t150) := (blk_cell BK155.out 1).trans rfl; have hcz32_2 : w31.cell? ⟨gb155, 2, none⟩ = some (.int .i64 t151) := (blk_cell BK155.out 2).trans rfl; have hcz32_3 : w31.cell? ⟨gb155, 3, none⟩ = some (.slice Ao30 t152.length co30) := (blk_cell BK155.out 3).trans rfl; have hfz32_0 := blk_frozen BK155.out 0; have hfz32_1 := blk_frozen BK155.out 1; have hfz32_2 := blk_frozen BK155.out 2; have hfz32_3 := blk_frozen BK155.out 3) | ((with_reducible refine gate_callee (f := 15) rfl ?_); refine goesL_ (some 34) rfl rfl Try.func15 (by kernel_rfl) rfl #[.int .i64 a3, .int .i64 (t152.length : Int)] rfl (by (try simp only [List.map_toArray, List.map_cons, List.map_nil]); first | done | rfl | (simp only [List.length_drop, List.length_take]; rfl)) ?_; (with_reducible refine (racewaylaw3_pick.calls a3 (t152.length : Int) t156 _ A11.out).mono ?_); rintro e w' ⟨rfl, ⟨nd, rfl⟩⟩; refine ⟨_, rfl, ?_⟩; (try (rw [drewN_self w31]; generalize hq_ : World.drewN w31 _ = w31; have n0_ : Aside0 (Kd.R k28 28 w31 w.heap.size (fun k_ => some k_ ≠ (.slice Ao30 t152.length co30 : Value).ownBlock) (.slice Ao22 y146.length co22) y146) := ⟨by rw [← hq_]; exact (by (with_reducible repeat (first | apply Kd.R_alloc | apply Kd.R_drewN | apply Kd.R_drew)); exact HO148.out)⟩; have n1_ : Aside0 (Kd.R k28 28 w31 w.heap.size (fun k_ => some k_ ≠ (.slice Ao22 y146.length co22 : Value).ownBlock) (.slice Ao30 t152.length co30) t152) := ⟨by rw [← hq_]; exact (by (with_reducible repeat (first | apply Kd.R_alloc | apply Kd.R_drewN | apply Kd.R_drew)); exact HO154.out)⟩; have n2_ : Aside0 (w31.heap[gb145]? = some (.cells #[.int .i64 t139, .int .i64 t140, .int .i64 t141, .slice Ao22 y146.length co22] 26 (0, 0))) := ⟨by rw [← hq_]; exact (by (with_reducible repeat (first | refine blk_drewN ?_ _ | refine blk_drew ?_ | refine blk_alloc ?_ _)); exact BK145.out)⟩; have n3_ : Aside0 (w31.heap[gb155]? = some (.cells #[.int .i64 t149, .int .i64 t150, .int .i64 t151, .slice Ao30 t152.length co30] 26 (0, 0))) := ⟨by rw [← hq_]; exact (by (with_reducible repeat (first | refine blk_drewN ?_ _ | refine blk_drew ?_ | refine blk_alloc ?_ _)); exact BK155.out)⟩; have n4_ : Aside0 (Below w.heap.size w w31) := ⟨by rw [← hq_]; exact (by repeat (first | (with_reducible first | exact HB.out | apply below_alloc | apply pw_below_drewN | apply below_drew1 | refine below_set ?_ GE145.out | refine below_set ?_ GE155.out) | exact HB.out))⟩; clear HO148 HO154 BK145 BK155 HB hq_; have HO148 := n0_; have HO154 := n1_; have BK145 := n2_; have BK155 := n3_; have HB := n4_; clear n0_ n1_ n2_ n3_ n4_; have hcqBK145_0 : w31.cell? ⟨gb145, 0, none⟩ = some (.int .i64 t139) := (blk_cell BK145.out 0).trans rfl; have hfqBK145_0 := blk_frozen BK145.out 0; have hcqBK145_1 : w31.cell? ⟨gb145, 1, none⟩ = some (.int .i64 t140) := (blk_cell BK145.out 1).trans rfl; have hfqBK145_1 := blk_frozen BK145.out 1; have hcqBK145_2 : w31.cell? ⟨gb145, 2, none⟩ = some (.int .i64 t141) := (blk_cell BK145.out 2).trans rfl; have hfqBK145_2 := blk_frozen BK145.out 2; have hcqBK145_3 : w31.cell? ⟨gb145, 3, none⟩ = some (.slice Ao22 y146.length co22) := (blk_cell BK145.out 3).trans rfl; have hfqBK145_3 := blk_frozen BK145.out 3; have hcqBK155_0 : w31.cell? ⟨gb155, 0, none⟩ = some (.int .i64 t149) := (blk_cell BK155.out 0).trans rfl; have hfqBK155_0 := blk_frozen BK155.out 0; have hcqBK155_1 : w31.cell? ⟨gb155, 1, none⟩ = some (.int .i64 t150) := (blk_cell BK155.out 1).trans rfl; have hfqBK155_1 := blk_frozen BK155.out 1; have hcqBK155_2 : w31.cell? ⟨gb155, 2, none⟩ = some (.int .i64 t151) := (blk_cell BK155.out 2).trans rfl; have hfqBK155_2 := blk_frozen BK155.out 2; have hcqBK155_3 : w31.cell? ⟨gb155, 3, none⟩ = some (.slice Ao30 t152.length co30) := (blk_cell BK155.out 3).trans rfl; have hfqBK155_3 := blk_frozen BK155.out 3))) | ((with_reducible refine gate_callee (f := 15) rfl ?_); refine goesL_ (some 36) rfl rfl Try.func15 (by kernel_rfl) rfl #[.int .i64 a4, .int .i64 7] rfl (by (try simp only [List.map_toArray, List.map_cons, List.map_nil]); first | done | rfl | (simp only [List.length_drop, List.length_take]; rfl)) ?_; (with_reducible refine (racewaylaw3_pick.calls a4 7 t157 _ A12.out).mono ?_); rintro e w' ⟨rfl, ⟨nd, rfl⟩⟩; refine ⟨_, rfl, ?_⟩; (try (rw [drewN_self w31]; generalize hq_ : World.drewN w31 _ = w31; have n0_ : Aside0 (Kd.R k28 28 w31 w.heap.size (fun k_ => some k_ ≠ (.slice Ao30 t152.length co30 : Value).ownBlock) (.slice Ao22 y146.length co22) y146) := ⟨by rw [← hq_]; exact (by (with_reducible repeat (first | apply Kd.R_alloc | apply Kd.R_drewN | apply Kd.R_drew)); exact HO148.out)⟩; have n1_ : Aside0 (Kd.R k28 28 w31 w.heap.size (fun k_ => some k_ ≠ (.slice Ao22 y146.length co22 : Value).ownBlock) (.slice Ao30 t152.length co30) t152) := ⟨by rw [← hq_]; exact (by (with_reducible repeat (first | apply Kd.R_alloc | apply Kd.R_drewN | apply Kd.R_drew)); exact HO154.out)⟩; have n2_ : Aside0 (w31.heap[gb145]? = some (.cells #[.int .i64 t139, .int .i64 t140, .int .i64 t141, .slice Ao22 y146.length co22] 26 (0, 0))) := ⟨by rw [← hq_]; exact (by (with_reducible repeat (first | refine blk_drewN ?_ _ | refine blk_drew ?_ | refine blk_alloc ?_ _)); exact BK145.out)⟩; have n3_ : Aside0 (w31.heap[gb155]? = some (.cells #[.int .i64 t149, .int .i64 t150, .int .i64 t151, .slice Ao30 t152.length co30] 26 (0, 0))) := ⟨by rw [← hq_]; exact (by (with_reducible repeat (first | refine blk_drewN ?_ _ | refine blk_drew ?_ | refine blk_alloc ?_ _)); exact BK155.out)⟩; have n4_ : Aside0 (Below w.heap.size w w31) := ⟨by rw [← hq_]; exact (by repeat (first | (with_reducible first | exact HB.out | apply below_alloc | apply pw_below_drewN | apply below_drew1 | refine below_set ?_ GE145.out | refine below_set ?_ GE155.out) | exact HB.out))⟩; clear HO148 HO154 BK145 BK155 HB hq_; have HO148 := n0_; have HO154 := n1_; have BK145 := n2_; have BK155 := n3_; have HB := n4_; clear n0_ n1_ n2_ n3_ n4_; have hcqBK145_0 : w31.cell? ⟨gb145, 0, none⟩ = some (.int .i64 t139) := (blk_cell BK145.out 0).trans rfl; have hfqBK145_0 := blk_frozen BK145.out 0; have hcqBK145_1 : w31.cell? ⟨gb145, 1, none⟩ = some (.int .i64 t140) := (blk_cell BK145.out 1).trans rfl; have hfqBK145_1 := blk_frozen BK145.out 1; have hcqBK145_2 : w31.cell? ⟨gb145, 2, none⟩ = some (.int .i64 t141) := (blk_cell BK145.out 2).trans rfl; have hfqBK145_2 := blk_frozen BK145.out 2; have hcqBK145_3 : w31.cell? ⟨gb145, 3, none⟩ = some (.slice Ao22 y146.length co22) := (blk_cell BK145.out 3).trans rfl; have hfqBK145_3 := blk_frozen BK145.out 3; have hcqBK155_0 : w31.cell? ⟨gb155, 0, none⟩ = some (.int .i64 t149) := (blk_cell BK155.out 0).trans rfl; have hfqBK155_0 := blk_frozen BK155.out 0; have hcqBK155_1 : w31.cell? ⟨gb155, 1, none⟩ = some (.int .i64 t150) := (blk_cell BK155.out 1).trans rfl; have hfqBK155_1 := blk_frozen BK155.out 1; have hcqBK155_2 : w31.cell? ⟨gb155, 2, none⟩ = some (.int .i64 t151) := (blk_cell BK155.out 2).trans rfl; have hfqBK155_2 := blk_frozen BK155.out 2; have hcqBK155_3 : w31.cell? ⟨gb155, 3, none⟩ = some (.slice Ao30 t152.length co30) := (blk_cell BK155.out 3).trans rfl; have hfqBK155_3 := blk_frozen BK155.out 3))))
      (try simp only [Act.put, List.setIfInBounds_toArray, List.set_cons_zero, List.set_cons_succ])
      go_cut [] (fun wc => ∃ (kq : Nat) (x146003_12 : List (S28)) (x156000_12 : Int) (x156001_12 : Int) (x156002_12 : Int) (x156003_12 : List (S28)) (u146003 : Value) (u156003 : Value), Aside0 (racewaylaw3_NetSames.j0 kq t139 t140 t141 x146003_12 x156000_12 x156001_12 x156002_12 x156003_12 = some r) ∧ Aside0 (kq ≤ k) ∧ Aside0 (Kd.Q k28 28 wc w.heap.size (fun k_ => some k_ ≠ (u156003 : Value).ownBlock) u146003 x146003_12) ∧ Aside0 (Kd.Q k28 28 wc w.heap.size (fun k_ => some k_ ≠ (u146003 : Value).ownBlock) u156003 x156003_12) ∧ Aside0 (wc.heap[gb145]? = some (.cells #[.int .i64 t139, .int .i64 t140, .int .i64 t141, u146003] 26 (0, 0))) ∧ Aside0 (wc.heap[gb155]? = some (.cells #[.int .i64 x156000_12, .int .i64 x156001_12, .int .i64 x156002_12, u156003] 26 (0, 0))) ∧ Aside0 (Below w.heap.size w wc))
      case first =>
        have H := HC13.out
        clear HC13
        by_cases c33 : t157 = 0
        · rw [if_pos c33] at H
          have c33b0 : (t157 == 0) = true := beq_iff_eq.mpr c33
          have c33b1 : (t157 != 0) = false := bne_eq_false_iff_eq.mpr c33
          clear c33
          (first | rw [c33b0] | (simp only [i64_w, i32_w]; rw [c33b0]) | skip)
          have H' := Aside0.mk H
          clear H
          have hnb34 := NB155_145.out
          have hnc34 := NB145_155.out
          have hcz35_0 : w31.cell? ⟨gb155, 0, none⟩ = some (.int .i64 t149) := (blk_cell BK155.out 0).trans rfl
          have hcz35_1 : w31.cell? ⟨gb155, 1, none⟩ = some (.int .i64 t150) := (blk_cell BK155.out 1).trans rfl
          have hcz35_2 : w31.cell? ⟨gb155, 2, none⟩ = some (.int .i64 t151) := (blk_cell BK155.out 2).trans rfl
          have hcz35_3 : w31.cell? ⟨gb155, 3, none⟩ = some (.slice Ao30 t152.length co30) := (blk_cell BK155.out 3).trans rfl
          have hfz35_0 := blk_frozen BK155.out 0
          have hfz35_1 := blk_frozen BK155.out 1
          have hfz35_2 := blk_frozen BK155.out 2
          have hfz35_3 := blk_frozen BK155.out 3
          go_wp2
          go_meet
          case rel => exact ⟨_, (y146), (wrap64 (t149 + 1)), (t150), (t151), (t152), (.slice Ao22 y146.length co22), (.slice Ao30 t152.length co30), H', ⟨by first | omega | exact Nat.le_refl _⟩, ⟨Kd.Q_of_R (by (with_reducible repeat (first | apply Kd.R_alloc | apply Kd.R_drewN | apply Kd.R_drew)); exact Kd.R_mono (Kd.R_far (p := ⟨gb155, 0, none⟩) (Kd.R_types HO148.out BK155.out (by decide)) (fun _ hk => hk.2) (.int .i64 (wrap64 (t149 + 1)))) (fun _ hk => hk.1))⟩, ⟨Kd.Q_of_R (by (with_reducible repeat (first | apply Kd.R_alloc | apply Kd.R_drewN | apply Kd.R_drew)); exact Kd.R_mono (Kd.R_far (p := ⟨gb155, 0, none⟩) (Kd.R_types HO154.out BK155.out (by decide)) (fun _ hk => hk.2) (.int .i64 (wrap64 (t149 + 1)))) (fun _ hk => hk.1))⟩, ⟨by (with_reducible repeat (first | refine blk_drewN ?_ _ | refine blk_drew ?_ | refine blk_alloc ?_ _)); refine blk_far ?_ NB145_155.out _; (with_reducible repeat (first | refine blk_drewN ?_ _ | refine blk_drew ?_ | refine blk_alloc ?_ _)); exact BK145.out⟩, ⟨by (with_reducible repeat (first | refine blk_drewN ?_ _ | refine blk_drew ?_ | refine blk_alloc ?_ _)); refine blk_put (cs := #[.int .i64 t149, .int .i64 t150, .int .i64 t151, .slice Ao30 t152.length co30]) ?_ 0 _ rfl; (with_reducible repeat (first | refine blk_drewN ?_ _ | refine blk_drew ?_ | refine blk_alloc ?_ _)); exact BK155.out⟩, ⟨by repeat (first | (with_reducible first | exact HB.out | apply below_alloc | apply pw_below_drewN | apply below_drew1 | refine below_set ?_ GE145.out | refine below_set ?_ GE155.out) | exact HB.out)⟩⟩
        · rw [if_neg c33] at H
          have c33b0 : (t157 == 0) = false := beq_eq_false_iff_ne.mpr c33
          have c33b1 : (t157 != 0) = true := bne_iff_ne.mpr c33
          (first | rw [c33b0] | (simp only [i64_w, i32_w]; rw [c33b0]) | skip)
          by_cases c36 : t157 = 1
          · rw [if_pos c36] at H
            have c36b0 : (t157 == 1) = true := beq_iff_eq.mpr c36
            have c36b1 : (t157 != 1) = false := bne_eq_false_iff_eq.mpr c36
            clear c36
            have H' := Aside0.mk H
            clear H
            have hnb37 := NB155_145.out
            have hnc37 := NB145_155.out
            have hcz38_0 : w31.cell? ⟨gb155, 0, none⟩ = some (.int .i64 t149) := (blk_cell BK155.out 0).trans rfl
            have hcz38_1 : w31.cell? ⟨gb155, 1, none⟩ = some (.int .i64 t150) := (blk_cell BK155.out 1).trans rfl
            have hcz38_2 : w31.cell? ⟨gb155, 2, none⟩ = some (.int .i64 t151) := (blk_cell BK155.out 2).trans rfl
            have hcz38_3 : w31.cell? ⟨gb155, 3, none⟩ = some (.slice Ao30 t152.length co30) := (blk_cell BK155.out 3).trans rfl
            have hfz38_0 := blk_frozen BK155.out 0
            have hfz38_1 := blk_frozen BK155.out 1
            have hfz38_2 := blk_frozen BK155.out 2
            have hfz38_3 := blk_frozen BK155.out 3
            go_wp2
            go_meet
            case rel => exact ⟨_, (y146), (t149), (wrap64 (t150 + 1)), (t151), (t152), (.slice Ao22 y146.length co22), (.slice Ao30 t152.length co30), H', ⟨by first | omega | exact Nat.le_refl _⟩, ⟨Kd.Q_of_R (by (with_reducible repeat (first | apply Kd.R_alloc | apply Kd.R_drewN | apply Kd.R_drew)); exact Kd.R_mono (Kd.R_far (p := ⟨gb155, 1, none⟩) (Kd.R_types HO148.out BK155.out (by decide)) (fun _ hk => hk.2) (.int .i64 (wrap64 (t150 + 1)))) (fun _ hk => hk.1))⟩, ⟨Kd.Q_of_R (by (with_reducible repeat (first | apply Kd.R_alloc | apply Kd.R_drewN | apply Kd.R_drew)); exact Kd.R_mono (Kd.R_far (p := ⟨gb155, 1, none⟩) (Kd.R_types HO154.out BK155.out (by decide)) (fun _ hk => hk.2) (.int .i64 (wrap64 (t150 + 1)))) (fun _ hk => hk.1))⟩, ⟨by (with_reducible repeat (first | refine blk_drewN ?_ _ | refine blk_drew ?_ | refine blk_alloc ?_ _)); refine blk_far ?_ NB145_155.out _; (with_reducible repeat (first | refine blk_drewN ?_ _ | refine blk_drew ?_ | refine blk_alloc ?_ _)); exact BK145.out⟩, ⟨by (with_reducible repeat (first | refine blk_drewN ?_ _ | refine blk_drew ?_ | refine blk_alloc ?_ _)); refine blk_put (cs := #[.int .i64 t149, .int .i64 t150, .int .i64 t151, .slice Ao30 t152.length co30]) ?_ 1 _ rfl; (with_reducible repeat (first | refine blk_drewN ?_ _ | refine blk_drew ?_ | refine blk_alloc ?_ _)); exact BK155.out⟩, ⟨by repeat (first | (with_reducible first | exact HB.out | apply below_alloc | apply pw_below_drewN | apply below_drew1 | refine below_set ?_ GE145.out | refine below_set ?_ GE155.out) | exact HB.out)⟩⟩
          · rw [if_neg c36] at H
            have c36b0 : (t157 == 1) = false := beq_eq_false_iff_ne.mpr c36
            have c36b1 : (t157 != 1) = true := bne_iff_ne.mpr c36
            by_cases c39 : t157 = 2
            · rw [if_pos c39] at H
              have c39b0 : (t157 == 2) = true := beq_iff_eq.mpr c39
              have c39b1 : (t157 != 2) = false := bne_eq_false_iff_eq.mpr c39
              clear c39
              have H' := Aside0.mk H
              clear H
              have hnb40 := NB155_145.out
              have hnc40 := NB145_155.out
              have hcz41_0 : w31.cell? ⟨gb155, 0, none⟩ = some (.int .i64 t149) := (blk_cell BK155.out 0).trans rfl
              have hcz41_1 : w31.cell? ⟨gb155, 1, none⟩ = some (.int .i64 t150) := (blk_cell BK155.out 1).trans rfl
              have hcz41_2 : w31.cell? ⟨gb155, 2, none⟩ = some (.int .i64 t151) := (blk_cell BK155.out 2).trans rfl
              have hcz41_3 : w31.cell? ⟨gb155, 3, none⟩ = some (.slice Ao30 t152.length co30) := (blk_cell BK155.out 3).trans rfl
              have hfz41_0 := blk_frozen BK155.out 0
              have hfz41_1 := blk_frozen BK155.out 1
              have hfz41_2 := blk_frozen BK155.out 2
              have hfz41_3 := blk_frozen BK155.out 3
              go_wp2
              go_meet
              case rel => exact ⟨_, (y146), (t149), (t150), (wrap64 (t151 - 1)), (t152), (.slice Ao22 y146.length co22), (.slice Ao30 t152.length co30), H', ⟨by first | omega | exact Nat.le_refl _⟩, ⟨Kd.Q_of_R (by (with_reducible repeat (first | apply Kd.R_alloc | apply Kd.R_drewN | apply Kd.R_drew)); exact Kd.R_mono (Kd.R_far (p := ⟨gb155, 2, none⟩) (Kd.R_types HO148.out BK155.out (by decide)) (fun _ hk => hk.2) (.int .i64 (wrap64 (t151 - 1)))) (fun _ hk => hk.1))⟩, ⟨Kd.Q_of_R (by (with_reducible repeat (first | apply Kd.R_alloc | apply Kd.R_drewN | apply Kd.R_drew)); exact Kd.R_mono (Kd.R_far (p := ⟨gb155, 2, none⟩) (Kd.R_types HO154.out BK155.out (by decide)) (fun _ hk => hk.2) (.int .i64 (wrap64 (t151 - 1)))) (fun _ hk => hk.1))⟩, ⟨by (with_reducible repeat (first | refine blk_drewN ?_ _ | refine blk_drew ?_ | refine blk_alloc ?_ _)); refine blk_far ?_ NB145_155.out _; (with_reducible repeat (first | refine blk_drewN ?_ _ | refine blk_drew ?_ | refine blk_alloc ?_ _)); exact BK145.out⟩, ⟨by (with_reducible repeat (first | refine blk_drewN ?_ _ | refine blk_drew ?_ | refine blk_alloc ?_ _)); refine blk_put (cs := #[.int .i64 t149, .int .i64 t150, .int .i64 t151, .slice Ao30 t152.length co30]) ?_ 2 _ rfl; (with_reducible repeat (first | refine blk_drewN ?_ _ | refine blk_drew ?_ | refine blk_alloc ?_ _)); exact BK155.out⟩, ⟨by repeat (first | (with_reducible first | exact HB.out | apply below_alloc | apply pw_below_drewN | apply below_drew1 | refine below_set ?_ GE145.out | refine below_set ?_ GE155.out) | exact HB.out)⟩⟩
            · rw [if_neg c39] at H
              have c39b0 : (t157 == 2) = false := beq_eq_false_iff_ne.mpr c39
              have c39b1 : (t157 != 2) = true := bne_iff_ne.mpr c39
              by_cases c42 : t157 = 3
              · rw [if_pos c42] at H
                have c42b0 : (t157 == 3) = true := beq_iff_eq.mpr c42
                have c42b1 : (t157 != 3) = false := bne_eq_false_iff_eq.mpr c42
                clear c42
                by_cases c43 : 0 ≤ t156
                · rw [if_pos c43] at H
                  have c43b0 : decide (0 ≤ t156) = true := decide_eq_true c43
                  clear c43
                  by_cases c44 : t156 < (t152.length : Int)
                  · rw [if_pos c44] at H
                    have c44b0 : decide (t156 < (t152.length : Int)) = true := decide_eq_true c44
                    clear c44
                    obtain ⟨y159, hy159⟩ : ∃ y_ : List (S28), y_ = (t152.set (t156 : Int).toNat (⟨wrap64 (((rd_T28 t152 t156).f0) + 1), (rd_T28 t152 t156).f1, (rd_T28 t152 t156).f2⟩ : S28)) := ⟨_, rfl⟩
                    replace H : (racewaylaw3_NetSames.j0 k t139 t140 t141 y146 t149 t150 t151 y159) = some r := by first | (rw [hy159]; with_reducible exact H) | (have H2_ := (Option.bind_some _ _).symm.trans H; rw [hy159]; with_reducible exact H2_) | (have H2_ := (Option.bind_some _ _).symm.trans H; with_reducible exact H2_) | with_reducible exact H | (rw [hy159]; exact H) | exact H
                    have Ny159 := Aside0.mk hy159
                    clear hy159
                    have H' := Aside0.mk H
                    clear H
                    have hnb46 := NB155_145.out
                    have hnc46 := NB145_155.out
                    have hcz47_0 : w31.cell? ⟨gb155, 0, none⟩ = some (.int .i64 t149) := (blk_cell BK155.out 0).trans rfl
                    have hcz47_1 : w31.cell? ⟨gb155, 1, none⟩ = some (.int .i64 t150) := (blk_cell BK155.out 1).trans rfl
                    have hcz47_2 : w31.cell? ⟨gb155, 2, none⟩ = some (.int .i64 t151) := (blk_cell BK155.out 2).trans rfl
                    have hcz47_3 : w31.cell? ⟨gb155, 3, none⟩ = some (.slice Ao30 t152.length co30) := (blk_cell BK155.out 3).trans rfl
                    have hfz47_0 := blk_frozen BK155.out 0
                    have hfz47_1 := blk_frozen BK155.out 1
                    have hfz47_2 := blk_frozen BK155.out 2
                    have hfz47_3 := blk_frozen BK155.out 3
                    have p158 : 0 ≤ (t156 : Int) := of_decide_eq_true (by first | (with_reducible assumption) | assumption)
                    have q158 : t156 < (t152.length : Int) := of_decide_eq_true (by first | (with_reducible assumption) | assumption)
                    obtain ⟨ad158, e158, hx158_0, hx158_1, hx158_2⟩ := at_T28 (Kd.R_reads' HO154.out).2.2 t156 p158 q158
                    cases e158
                    replace p158 := eq_true p158
                    replace q158 := eq_true q158
                    have p45 : 0 ≤ (t156 : Int) := of_decide_eq_true (by first | (with_reducible assumption) | assumption)
                    have q45 : (t156 : Int) < ((t152.length : Int) : Int) := of_decide_eq_true (by first | (with_reducible assumption) | assumption)
                    obtain ⟨go45, co45, eo45, gb45, gl45, cl45, HG45⟩ := Kd.R_form HO154.out (by omega)
                    (first | cases eo45 | (injection eo45 with ea_ en_ ec_; (first | subst ea_ | (injection ea_ with ea_; subst ea_)); subst ec_; clear en_))
                    have GB45 := Aside0.mk gb45
                    have GG45 := Aside0.mk HG45
                    clear gb45 gl45 HG45
                    (first | simp only [add_plain] at hx158_0 | skip)
                    (first | simp only [add_plain] at hx158_1 | skip)
                    (first | simp only [add_plain] at hx158_2 | skip)
                    obtain ⟨ce45, hcl45, hM45, hcc45, hfr45⟩ := Kd.R_elem HO154.out z28 (t156 : Int) p45 q45
                    obtain rfl := k28_openM hM45
                    have hx45_0 : w31.cell? ⟨go45, (t156 : Int).toNat * 3, none⟩ = some (.int .i64 ((rd_T28 t152 t156).f0)) := hcc45 0 _ rfl
                    have hx45_1 : w31.cell? ⟨go45, (t156 : Int).toNat * 3 + 1, none⟩ = some (.int .i64 ((rd_T28 t152 t156).f1)) := hcc45 1 _ rfl
                    have hx45_2 : w31.cell? ⟨go45, (t156 : Int).toNat * 3 + 2, none⟩ = some (.int .i64 ((rd_T28 t152 t156).f2)) := hcc45 2 _ rfl
                    have hf45_0 : w31.frozen? ⟨go45, (t156 : Int).toNat * 3, none⟩ = false := hfr45 0
                    have hf45_1 : w31.frozen? ⟨go45, (t156 : Int).toNat * 3 + 1, none⟩ = false := hfr45 1
                    have hf45_2 : w31.frozen? ⟨go45, (t156 : Int).toNat * 3 + 2, none⟩ = false := hfr45 2
                    clear hcl45 hcc45 hfr45 hM45
                    replace p45 := eq_true p45
                    replace q45 := eq_true q45
                    have HX48 := Aside0.mk (show Kd.R k28 28 w31 w.heap.size (fun k_ => some k_ ≠ (.slice Ao22 y146.length co22 : Value).ownBlock) (.slice (some ⟨go45, 0, none⟩) t152.length co30) t152 from (by (with_reducible repeat (first | apply Kd.R_alloc | apply Kd.R_drewN | apply Kd.R_drew)); exact HO154.out))
                    obtain ⟨ce48, hcl48, hM48, hcc48, hfr48⟩ := Kd.R_elem HX48.out z28 (t156 : Int) (of_decide_eq_true (by first | (with_reducible assumption) | assumption)) (by have h_ : (t156 : Int) < ((t152.length : Int) : Int) := of_decide_eq_true (by first | (with_reducible assumption) | assumption); first | exact h_ | (have e_ := (Kd.R_reads' HO154.out).1; omega) | simpa using h_)
                    obtain rfl := k28_openM hM48
                    have HP48 := Kd.R_seg HX48.out (t156 : Int) (of_decide_eq_true (by first | (with_reducible assumption) | assumption)) (by have h_ : (t156 : Int) < ((t152.length : Int) : Int) := of_decide_eq_true (by first | (with_reducible assumption) | assumption); first | exact h_ | (have e_ := (Kd.R_reads' HO154.out).1; omega) | simpa using h_) (seg := [.int .i64 (wrap64 (((rd_T28 t152 t156).f0) + 1))]) (j := 0) hcl48 hcc48 (show 1 ≤ 3 from by decide) (x' := (⟨wrap64 (((rd_T28 t152 t156).f0) + 1), (rd_T28 t152 t156).f1, (rd_T28 t152 t156).f2⟩ : S28)) (k28_mkM _ _ _ (⟨wrap64 (((rd_T28 t152 t156).f0) + 1), (rd_T28 t152 t156).f1, (rd_T28 t152 t156).f2⟩ : S28) ) (fun _ hk => hk)
                    have hx48_0 := hcc48 0 _ rfl
                    (try simp only [show (k28).sz = 3 from rfl, Nat.mul_one, Nat.add_zero] at hx48_0)
                    have hf48_0 := hfr48 0
                    (try simp only [show (k28).sz = 3 from rfl, Nat.mul_one, Nat.add_zero] at hf48_0)
                    clear hcl48 hcc48 hfr48 hM48
                    go_wp2_with (first | ((with_reducible refine gate_store (t := 3) (p := 69) rfl ?_); refine store_event (t := 3) (p := 69) (v := ?vo_w49) (w1 := (w31.setCell ⟨go45, (t156 : Int).toNat * 3, none⟩ (.int .i64 (wrap64 (((rd_T28 t152 t156).f0) + 1))))) ?hg ?ho ?hn ?hr ?_; (case ho => rfl); (case hg => rfl); (case hn => rfl); (case hr => first | (go_simp; done) | (go_simp; rfl)); intro w49 hw; have hg : w31.grownBy w49 (some go45) := (by rw [hw]; exact HP48.2); have hp_ : Kd.R k28 28 w49 w.heap.size (fun k_ => some k_ ≠ (.slice Ao22 y146.length co22 : Value).ownBlock) (.slice (some ⟨go45, 0, none⟩) t152.length co30) y159 := (by rw [hw, Ny159.out]; exact HP48.1); clear HP48; have n0_ := Aside0.mk (blk_grown (g := gb145) (o := .cells #[.int .i64 t139, .int .i64 t140, .int .i64 t141, .slice Ao22 y146.length co22] 26 (0, 0)) (by (with_reducible repeat (first | refine blk_drewN ?_ _ | refine blk_drew ?_ | refine blk_alloc ?_ _)); exact BK145.out) hg (Kd.R_ne HO154.out BK145.out (by decide))); have n1_ := Aside0.mk (Kd.R_after (v := (.slice (some ⟨go45, 0, none⟩) t152.length co30)) (v1 := (.slice (some ⟨go45, 0, none⟩) t152.length co30)) (ok := (fun _ => True)) (by (with_reducible repeat (first | apply Kd.R_alloc | apply Kd.R_drewN | apply Kd.R_drew)); exact Kd.R_mono HO148.out (fun _ hk => ⟨trivial, hk⟩)) hg (.inl rfl)); have n2_ := Aside0.mk (hp_); have n3_ := Aside0.mk (blk_grown (g := gb155) (o := .cells #[.int .i64 t149, .int .i64 t150, .int .i64 t151, .slice (some ⟨go45, 0, none⟩) t152.length co30] 26 (0, 0)) (by (with_reducible repeat (first | refine blk_drewN ?_ _ | refine blk_drew ?_ | refine blk_alloc ?_ _)); exact BK155.out) hg (Kd.R_ne HO154.out BK155.out (by decide))); have n4_ := Aside0.mk ((by rw [hw]; exact below_set (HB.out) GB45.out : Below w.heap.size w w49)); clear BK145; clear HO148; clear HO154; clear BK155; clear HB; have BK145 := n0_; have HO148 := n1_; have HO154 := n2_; have BK155 := n3_; have HB := n4_; clear n0_ n1_ n2_ n3_ n4_; clear hg hw hp_))
                    go_meet
                    case rel => exact ⟨_, (y146), (t149), (t150), (t151), (y159), (.slice Ao22 y146.length co22), (.slice (some ⟨go45, 0, none⟩) t152.length co30), H', ⟨by first | omega | exact Nat.le_refl _⟩, ⟨Kd.Q_of_R (by (with_reducible repeat (first | apply Kd.R_alloc | apply Kd.R_drewN | apply Kd.R_drew)); exact Kd.R_mono HO148.out (fun _ hk => hk.2))⟩, ⟨Kd.Q_of_R (by (with_reducible repeat (first | apply Kd.R_alloc | apply Kd.R_drewN | apply Kd.R_drew)); exact HO154.out)⟩, ⟨by (with_reducible repeat (first | refine blk_drewN ?_ _ | refine blk_drew ?_ | refine blk_alloc ?_ _)); exact BK145.out⟩, ⟨by (with_reducible repeat (first | refine blk_drewN ?_ _ | refine blk_drew ?_ | refine blk_alloc ?_ _)); exact BK155.out⟩, ⟨by repeat (first | (with_reducible first | exact HB.out | apply below_alloc | apply pw_below_drewN | apply below_drew1 | refine below_set ?_ GE145.out | refine below_set ?_ GE155.out) | exact HB.out)⟩⟩
                  · rw [if_neg c44] at H
                    exact absurd H (by simp)
                · rw [if_neg c43] at H
                  exact absurd H (by simp)
              · rw [if_neg c42] at H
                have c42b0 : (t157 == 3) = false := beq_eq_false_iff_ne.mpr c42
                have c42b1 : (t157 != 3) = true := bne_iff_ne.mpr c42
                by_cases c50 : t157 = 4
                · rw [if_pos c50] at H
                  have c50b0 : (t157 == 4) = true := beq_iff_eq.mpr c50
                  have c50b1 : (t157 != 4) = false := bne_eq_false_iff_eq.mpr c50
                  clear c50
                  by_cases c51 : 0 ≤ t156
                  · rw [if_pos c51] at H
                    have c51b0 : decide (0 ≤ t156) = true := decide_eq_true c51
                    clear c51
                    by_cases c52 : t156 < (t152.length : Int)
                    · rw [if_pos c52] at H
                      have c52b0 : decide (t156 < (t152.length : Int)) = true := decide_eq_true c52
                      clear c52
                      obtain ⟨y161, hy161⟩ : ∃ y_ : List (S28), y_ = (t152.set (t156 : Int).toNat (⟨(rd_T28 t152 t156).f0, wrap64 (((rd_T28 t152 t156).f1) - 1), (rd_T28 t152 t156).f2⟩ : S28)) := ⟨_, rfl⟩
                      replace H : (racewaylaw3_NetSames.j0 k t139 t140 t141 y146 t149 t150 t151 y161) = some r := by first | (rw [hy161]; with_reducible exact H) | (have H2_ := (Option.bind_some _ _).symm.trans H; rw [hy161]; with_reducible exact H2_) | (have H2_ := (Option.bind_some _ _).symm.trans H; with_reducible exact H2_) | with_reducible exact H | (rw [hy161]; exact H) | exact H
                      have Ny161 := Aside0.mk hy161
                      clear hy161
                      have H' := Aside0.mk H
                      clear H
                      have hnb54 := NB155_145.out
                      have hnc54 := NB145_155.out
                      have hcz55_0 : w31.cell? ⟨gb155, 0, none⟩ = some (.int .i64 t149) := (blk_cell BK155.out 0).trans rfl
                      have hcz55_1 : w31.cell? ⟨gb155, 1, none⟩ = some (.int .i64 t150) := (blk_cell BK155.out 1).trans rfl
                      have hcz55_2 : w31.cell? ⟨gb155, 2, none⟩ = some (.int .i64 t151) := (blk_cell BK155.out 2).trans rfl
                      have hcz55_3 : w31.cell? ⟨gb155, 3, none⟩ = some (.slice Ao30 t152.length co30) := (blk_cell BK155.out 3).trans rfl
                      have hfz55_0 := blk_frozen BK155.out 0
                      have hfz55_1 := blk_frozen BK155.out 1
                      have hfz55_2 := blk_frozen BK155.out 2
                      have hfz55_3 := blk_frozen BK155.out 3
                      have p160 : 0 ≤ (t156 : Int) := of_decide_eq_true (by first | (with_reducible assumption) | assumption)
                      have q160 : t156 < (t152.length : Int) := of_decide_eq_true (by first | (with_reducible assumption) | assumption)
                      obtain ⟨ad160, e160, hx160_0, hx160_1, hx160_2⟩ := at_T28 (Kd.R_reads' HO154.out).2.2 t156 p160 q160
                      cases e160
                      replace p160 := eq_true p160
                      replace q160 := eq_true q160
                      have p53 : 0 ≤ (t156 : Int) := of_decide_eq_true (by first | (with_reducible assumption) | assumption)
                      have q53 : (t156 : Int) < ((t152.length : Int) : Int) := of_decide_eq_true (by first | (with_reducible assumption) | assumption)
                      obtain ⟨go53, co53, eo53, gb53, gl53, cl53, HG53⟩ := Kd.R_form HO154.out (by omega)
                      (first | cases eo53 | (injection eo53 with ea_ en_ ec_; (first | subst ea_ | (injection ea_ with ea_; subst ea_)); subst ec_; clear en_))
                      have GB53 := Aside0.mk gb53
                      have GG53 := Aside0.mk HG53
                      clear gb53 gl53 HG53
                      (first | simp only [add_plain] at hx160_0 | skip)
                      (first | simp only [add_plain] at hx160_1 | skip)
                      (first | simp only [add_plain] at hx160_2 | skip)
                      obtain ⟨ce53, hcl53, hM53, hcc53, hfr53⟩ := Kd.R_elem HO154.out z28 (t156 : Int) p53 q53
                      obtain rfl := k28_openM hM53
                      have hx53_0 : w31.cell? ⟨go53, (t156 : Int).toNat * 3, none⟩ = some (.int .i64 ((rd_T28 t152 t156).f0)) := hcc53 0 _ rfl
                      have hx53_1 : w31.cell? ⟨go53, (t156 : Int).toNat * 3 + 1, none⟩ = some (.int .i64 ((rd_T28 t152 t156).f1)) := hcc53 1 _ rfl
                      have hx53_2 : w31.cell? ⟨go53, (t156 : Int).toNat * 3 + 2, none⟩ = some (.int .i64 ((rd_T28 t152 t156).f2)) := hcc53 2 _ rfl
                      have hf53_0 : w31.frozen? ⟨go53, (t156 : Int).toNat * 3, none⟩ = false := hfr53 0
                      have hf53_1 : w31.frozen? ⟨go53, (t156 : Int).toNat * 3 + 1, none⟩ = false := hfr53 1
                      have hf53_2 : w31.frozen? ⟨go53, (t156 : Int).toNat * 3 + 2, none⟩ = false := hfr53 2
                      clear hcl53 hcc53 hfr53 hM53
                      replace p53 := eq_true p53
                      replace q53 := eq_true q53
                      have HX56 := Aside0.mk (show Kd.R k28 28 w31 w.heap.size (fun k_ => some k_ ≠ (.slice Ao22 y146.length co22 : Value).ownBlock) (.slice (some ⟨go53, 0, none⟩) t152.length co30) t152 from (by (with_reducible repeat (first | apply Kd.R_alloc | apply Kd.R_drewN | apply Kd.R_drew)); exact HO154.out))
                      obtain ⟨ce56, hcl56, hM56, hcc56, hfr56⟩ := Kd.R_elem HX56.out z28 (t156 : Int) (of_decide_eq_true (by first | (with_reducible assumption) | assumption)) (by have h_ : (t156 : Int) < ((t152.length : Int) : Int) := of_decide_eq_true (by first | (with_reducible assumption) | assumption); first | exact h_ | (have e_ := (Kd.R_reads' HO154.out).1; omega) | simpa using h_)
                      obtain rfl := k28_openM hM56
                      have HP56 := Kd.R_seg HX56.out (t156 : Int) (of_decide_eq_true (by first | (with_reducible assumption) | assumption)) (by have h_ : (t156 : Int) < ((t152.length : Int) : Int) := of_decide_eq_true (by first | (with_reducible assumption) | assumption); first | exact h_ | (have e_ := (Kd.R_reads' HO154.out).1; omega) | simpa using h_) (seg := [.int .i64 (wrap64 (((rd_T28 t152 t156).f1) - 1))]) (j := 1) hcl56 hcc56 (show 2 ≤ 3 from by decide) (x' := (⟨(rd_T28 t152 t156).f0, wrap64 (((rd_T28 t152 t156).f1) - 1), (rd_T28 t152 t156).f2⟩ : S28)) (k28_mkM _ _ _ (⟨(rd_T28 t152 t156).f0, wrap64 (((rd_T28 t152 t156).f1) - 1), (rd_T28 t152 t156).f2⟩ : S28) ) (fun _ hk => hk)
                      have hx56_1 := hcc56 1 _ rfl
                      (try simp only [show (k28).sz = 3 from rfl, Nat.mul_one, Nat.add_zero] at hx56_1)
                      have hf56_1 := hfr56 1
                      (try simp only [show (k28).sz = 3 from rfl, Nat.mul_one, Nat.add_zero] at hf56_1)
                      clear hcl56 hcc56 hfr56 hM56
                      go_wp2_with (first | ((with_reducible refine gate_store (t := 3) (p := 80) rfl ?_); refine store_event (t := 3) (p := 80) (v := ?vo_w57) (w1 := (w31.setCell ⟨go53, (t156 : Int).toNat * 3 + 1, none⟩ (.int .i64 (wrap64 (((rd_T28 t152 t156).f1) - 1))))) ?hg ?ho ?hn ?hr ?_; (case ho => rfl); (case hg => rfl); (case hn => rfl); (case hr => first | (go_simp; done) | (go_simp; rfl)); intro w57 hw; have hg : w31.grownBy w57 (some go53) := (by rw [hw]; exact HP56.2); have hp_ : Kd.R k28 28 w57 w.heap.size (fun k_ => some k_ ≠ (.slice Ao22 y146.length co22 : Value).ownBlock) (.slice (some ⟨go53, 0, none⟩) t152.length co30) y161 := (by rw [hw, Ny161.out]; exact HP56.1); clear HP56; have n0_ := Aside0.mk (blk_grown (g := gb145) (o := .cells #[.int .i64 t139, .int .i64 t140, .int .i64 t141, .slice Ao22 y146.length co22] 26 (0, 0)) (by (with_reducible repeat (first | refine blk_drewN ?_ _ | refine blk_drew ?_ | refine blk_alloc ?_ _)); exact BK145.out) hg (Kd.R_ne HO154.out BK145.out (by decide))); have n1_ := Aside0.mk (Kd.R_after (v := (.slice (some ⟨go53, 0, none⟩) t152.length co30)) (v1 := (.slice (some ⟨go53, 0, none⟩) t152.length co30)) (ok := (fun _ => True)) (by (with_reducible repeat (first | apply Kd.R_alloc | apply Kd.R_drewN | apply Kd.R_drew)); exact Kd.R_mono HO148.out (fun _ hk => ⟨trivial, hk⟩)) hg (.inl rfl)); have n2_ := Aside0.mk (hp_); have n3_ := Aside0.mk (blk_grown (g := gb155) (o := .cells #[.int .i64 t149, .int .i64 t150, .int .i64 t151, .slice (some ⟨go53, 0, none⟩) t152.length co30] 26 (0, 0)) (by (with_reducible repeat (first | refine blk_drewN ?_ _ | refine blk_drew ?_ | refine blk_alloc ?_ _)); exact BK155.out) hg (Kd.R_ne HO154.out BK155.out (by decide))); have n4_ := Aside0.mk ((by rw [hw]; exact below_set (HB.out) GB53.out : Below w.heap.size w w57)); clear BK145; clear HO148; clear HO154; clear BK155; clear HB; have BK145 := n0_; have HO148 := n1_; have HO154 := n2_; have BK155 := n3_; have HB := n4_; clear n0_ n1_ n2_ n3_ n4_; clear hg hw hp_))
                      go_meet
                      case rel => exact ⟨_, (y146), (t149), (t150), (t151), (y161), (.slice Ao22 y146.length co22), (.slice (some ⟨go53, 0, none⟩) t152.length co30), H', ⟨by first | omega | exact Nat.le_refl _⟩, ⟨Kd.Q_of_R (by (with_reducible repeat (first | apply Kd.R_alloc | apply Kd.R_drewN | apply Kd.R_drew)); exact Kd.R_mono HO148.out (fun _ hk => hk.2))⟩, ⟨Kd.Q_of_R (by (with_reducible repeat (first | apply Kd.R_alloc | apply Kd.R_drewN | apply Kd.R_drew)); exact HO154.out)⟩, ⟨by (with_reducible repeat (first | refine blk_drewN ?_ _ | refine blk_drew ?_ | refine blk_alloc ?_ _)); exact BK145.out⟩, ⟨by (with_reducible repeat (first | refine blk_drewN ?_ _ | refine blk_drew ?_ | refine blk_alloc ?_ _)); exact BK155.out⟩, ⟨by repeat (first | (with_reducible first | exact HB.out | apply below_alloc | apply pw_below_drewN | apply below_drew1 | refine below_set ?_ GE145.out | refine below_set ?_ GE155.out) | exact HB.out)⟩⟩
                    · rw [if_neg c52] at H
                      exact absurd H (by simp)
                  · rw [if_neg c51] at H
                    exact absurd H (by simp)
                · rw [if_neg c50] at H
                  have c50b0 : (t157 == 4) = false := beq_eq_false_iff_ne.mpr c50
                  have c50b1 : (t157 != 4) = true := bne_iff_ne.mpr c50
                  by_cases c58 : t157 = 5
                  · rw [if_pos c58] at H
                    have c58b0 : (t157 == 5) = true := beq_iff_eq.mpr c58
                    have c58b1 : (t157 != 5) = false := bne_eq_false_iff_eq.mpr c58
                    clear c58
                    by_cases c59 : 0 ≤ t156
                    · rw [if_pos c59] at H
                      have c59b0 : decide (0 ≤ t156) = true := decide_eq_true c59
                      clear c59
                      by_cases c60 : t156 < (t152.length : Int)
                      · rw [if_pos c60] at H
                        have c60b0 : decide (t156 < (t152.length : Int)) = true := decide_eq_true c60
                        clear c60
                        obtain ⟨y163, hy163⟩ : ∃ y_ : List (S28), y_ = (t152.set (t156 : Int).toNat (⟨(rd_T28 t152 t156).f0, (rd_T28 t152 t156).f1, wrap64 (((rd_T28 t152 t156).f2) + 1)⟩ : S28)) := ⟨_, rfl⟩
                        replace H : (racewaylaw3_NetSames.j0 k t139 t140 t141 y146 t149 t150 t151 y163) = some r := by first | (rw [hy163]; with_reducible exact H) | (have H2_ := (Option.bind_some _ _).symm.trans H; rw [hy163]; with_reducible exact H2_) | (have H2_ := (Option.bind_some _ _).symm.trans H; with_reducible exact H2_) | with_reducible exact H | (rw [hy163]; exact H) | exact H
                        have Ny163 := Aside0.mk hy163
                        clear hy163
                        have H' := Aside0.mk H
                        clear H
                        have hnb62 := NB155_145.out
                        have hnc62 := NB145_155.out
                        have hcz63_0 : w31.cell? ⟨gb155, 0, none⟩ = some (.int .i64 t149) := (blk_cell BK155.out 0).trans rfl
                        have hcz63_1 : w31.cell? ⟨gb155, 1, none⟩ = some (.int .i64 t150) := (blk_cell BK155.out 1).trans rfl
                        have hcz63_2 : w31.cell? ⟨gb155, 2, none⟩ = some (.int .i64 t151) := (blk_cell BK155.out 2).trans rfl
                        have hcz63_3 : w31.cell? ⟨gb155, 3, none⟩ = some (.slice Ao30 t152.length co30) := (blk_cell BK155.out 3).trans rfl
                        have hfz63_0 := blk_frozen BK155.out 0
                        have hfz63_1 := blk_frozen BK155.out 1
                        have hfz63_2 := blk_frozen BK155.out 2
                        have hfz63_3 := blk_frozen BK155.out 3
                        have p162 : 0 ≤ (t156 : Int) := of_decide_eq_true (by first | (with_reducible assumption) | assumption)
                        have q162 : t156 < (t152.length : Int) := of_decide_eq_true (by first | (with_reducible assumption) | assumption)
                        obtain ⟨ad162, e162, hx162_0, hx162_1, hx162_2⟩ := at_T28 (Kd.R_reads' HO154.out).2.2 t156 p162 q162
                        cases e162
                        replace p162 := eq_true p162
                        replace q162 := eq_true q162
                        have p61 : 0 ≤ (t156 : Int) := of_decide_eq_true (by first | (with_reducible assumption) | assumption)
                        have q61 : (t156 : Int) < ((t152.length : Int) : Int) := of_decide_eq_true (by first | (with_reducible assumption) | assumption)
                        obtain ⟨go61, co61, eo61, gb61, gl61, cl61, HG61⟩ := Kd.R_form HO154.out (by omega)
                        (first | cases eo61 | (injection eo61 with ea_ en_ ec_; (first | subst ea_ | (injection ea_ with ea_; subst ea_)); subst ec_; clear en_))
                        have GB61 := Aside0.mk gb61
                        have GG61 := Aside0.mk HG61
                        clear gb61 gl61 HG61
                        (first | simp only [add_plain] at hx162_0 | skip)
                        (first | simp only [add_plain] at hx162_1 | skip)
                        (first | simp only [add_plain] at hx162_2 | skip)
                        obtain ⟨ce61, hcl61, hM61, hcc61, hfr61⟩ := Kd.R_elem HO154.out z28 (t156 : Int) p61 q61
                        obtain rfl := k28_openM hM61
                        have hx61_0 : w31.cell? ⟨go61, (t156 : Int).toNat * 3, none⟩ = some (.int .i64 ((rd_T28 t152 t156).f0)) := hcc61 0 _ rfl
                        have hx61_1 : w31.cell? ⟨go61, (t156 : Int).toNat * 3 + 1, none⟩ = some (.int .i64 ((rd_T28 t152 t156).f1)) := hcc61 1 _ rfl
                        have hx61_2 : w31.cell? ⟨go61, (t156 : Int).toNat * 3 + 2, none⟩ = some (.int .i64 ((rd_T28 t152 t156).f2)) := hcc61 2 _ rfl
                        have hf61_0 : w31.frozen? ⟨go61, (t156 : Int).toNat * 3, none⟩ = false := hfr61 0
                        have hf61_1 : w31.frozen? ⟨go61, (t156 : Int).toNat * 3 + 1, none⟩ = false := hfr61 1
                        have hf61_2 : w31.frozen? ⟨go61, (t156 : Int).toNat * 3 + 2, none⟩ = false := hfr61 2
                        clear hcl61 hcc61 hfr61 hM61
                        replace p61 := eq_true p61
                        replace q61 := eq_true q61
                        have HX64 := Aside0.mk (show Kd.R k28 28 w31 w.heap.size (fun k_ => some k_ ≠ (.slice Ao22 y146.length co22 : Value).ownBlock) (.slice (some ⟨go61, 0, none⟩) t152.length co30) t152 from (by (with_reducible repeat (first | apply Kd.R_alloc | apply Kd.R_drewN | apply Kd.R_drew)); exact HO154.out))
                        obtain ⟨ce64, hcl64, hM64, hcc64, hfr64⟩ := Kd.R_elem HX64.out z28 (t156 : Int) (of_decide_eq_true (by first | (with_reducible assumption) | assumption)) (by have h_ : (t156 : Int) < ((t152.length : Int) : Int) := of_decide_eq_true (by first | (with_reducible assumption) | assumption); first | exact h_ | (have e_ := (Kd.R_reads' HO154.out).1; omega) | simpa using h_)
                        obtain rfl := k28_openM hM64
                        have HP64 := Kd.R_seg HX64.out (t156 : Int) (of_decide_eq_true (by first | (with_reducible assumption) | assumption)) (by have h_ : (t156 : Int) < ((t152.length : Int) : Int) := of_decide_eq_true (by first | (with_reducible assumption) | assumption); first | exact h_ | (have e_ := (Kd.R_reads' HO154.out).1; omega) | simpa using h_) (seg := [.int .i64 (wrap64 (((rd_T28 t152 t156).f2) + 1))]) (j := 2) hcl64 hcc64 (show 3 ≤ 3 from by decide) (x' := (⟨(rd_T28 t152 t156).f0, (rd_T28 t152 t156).f1, wrap64 (((rd_T28 t152 t156).f2) + 1)⟩ : S28)) (k28_mkM _ _ _ (⟨(rd_T28 t152 t156).f0, (rd_T28 t152 t156).f1, wrap64 (((rd_T28 t152 t156).f2) + 1)⟩ : S28) ) (fun _ hk => hk)
                        have hx64_2 := hcc64 2 _ rfl
                        (try simp only [show (k28).sz = 3 from rfl, Nat.mul_one, Nat.add_zero] at hx64_2)
                        have hf64_2 := hfr64 2
                        (try simp only [show (k28).sz = 3 from rfl, Nat.mul_one, Nat.add_zero] at hf64_2)
                        clear hcl64 hcc64 hfr64 hM64
                        go_wp2_with (first | ((with_reducible refine gate_store (t := 2) (p := 91) rfl ?_); refine store_event (t := 2) (p := 91) (v := ?vo_w65) (w1 := (w31.setCell ⟨go61, (t156 : Int).toNat * 3 + 2, none⟩ (.int .i64 (wrap64 (((rd_T28 t152 t156).f2) + 1))))) ?hg ?ho ?hn ?hr ?_; (case ho => rfl); (case hg => rfl); (case hn => rfl); (case hr => first | (go_simp; done) | (go_simp; rfl)); intro w65 hw; have hg : w31.grownBy w65 (some go61) := (by rw [hw]; exact HP64.2); have hp_ : Kd.R k28 28 w65 w.heap.size (fun k_ => some k_ ≠ (.slice Ao22 y146.length co22 : Value).ownBlock) (.slice (some ⟨go61, 0, none⟩) t152.length co30) y163 := (by rw [hw, Ny163.out]; exact HP64.1); clear HP64; have n0_ := Aside0.mk (blk_grown (g := gb145) (o := .cells #[.int .i64 t139, .int .i64 t140, .int .i64 t141, .slice Ao22 y146.length co22] 26 (0, 0)) (by (with_reducible repeat (first | refine blk_drewN ?_ _ | refine blk_drew ?_ | refine blk_alloc ?_ _)); exact BK145.out) hg (Kd.R_ne HO154.out BK145.out (by decide))); have n1_ := Aside0.mk (Kd.R_after (v := (.slice (some ⟨go61, 0, none⟩) t152.length co30)) (v1 := (.slice (some ⟨go61, 0, none⟩) t152.length co30)) (ok := (fun _ => True)) (by (with_reducible repeat (first | apply Kd.R_alloc | apply Kd.R_drewN | apply Kd.R_drew)); exact Kd.R_mono HO148.out (fun _ hk => ⟨trivial, hk⟩)) hg (.inl rfl)); have n2_ := Aside0.mk (hp_); have n3_ := Aside0.mk (blk_grown (g := gb155) (o := .cells #[.int .i64 t149, .int .i64 t150, .int .i64 t151, .slice (some ⟨go61, 0, none⟩) t152.length co30] 26 (0, 0)) (by (with_reducible repeat (first | refine blk_drewN ?_ _ | refine blk_drew ?_ | refine blk_alloc ?_ _)); exact BK155.out) hg (Kd.R_ne HO154.out BK155.out (by decide))); have n4_ := Aside0.mk ((by rw [hw]; exact below_set (HB.out) GB61.out : Below w.heap.size w w65)); clear BK145; clear HO148; clear HO154; clear BK155; clear HB; have BK145 := n0_; have HO148 := n1_; have HO154 := n2_; have BK155 := n3_; have HB := n4_; clear n0_ n1_ n2_ n3_ n4_; clear hg hw hp_))
                        go_meet
                        case rel => exact ⟨_, (y146), (t149), (t150), (t151), (y163), (.slice Ao22 y146.length co22), (.slice (some ⟨go61, 0, none⟩) t152.length co30), H', ⟨by first | omega | exact Nat.le_refl _⟩, ⟨Kd.Q_of_R (by (with_reducible repeat (first | apply Kd.R_alloc | apply Kd.R_drewN | apply Kd.R_drew)); exact Kd.R_mono HO148.out (fun _ hk => hk.2))⟩, ⟨Kd.Q_of_R (by (with_reducible repeat (first | apply Kd.R_alloc | apply Kd.R_drewN | apply Kd.R_drew)); exact HO154.out)⟩, ⟨by (with_reducible repeat (first | refine blk_drewN ?_ _ | refine blk_drew ?_ | refine blk_alloc ?_ _)); exact BK145.out⟩, ⟨by (with_reducible repeat (first | refine blk_drewN ?_ _ | refine blk_drew ?_ | refine blk_alloc ?_ _)); exact BK155.out⟩, ⟨by repeat (first | (with_reducible first | exact HB.out | apply below_alloc | apply pw_below_drewN | apply below_drew1 | refine below_set ?_ GE145.out | refine below_set ?_ GE155.out) | exact HB.out)⟩⟩
                      · rw [if_neg c60] at H
                        exact absurd H (by simp)
                    · rw [if_neg c59] at H
                      exact absurd H (by simp)
                  · rw [if_neg c58] at H
                    have c58b0 : (t157 == 5) = false := beq_eq_false_iff_ne.mpr c58
                    have c58b1 : (t157 != 5) = true := bne_iff_ne.mpr c58
                    by_cases c66 : 1 ≤ (t152.length : Int)
                    · rw [if_pos c66] at H
                      have c66b0 := eq_true c66
                      have c66b1 : decide (1 ≤ (t152.length : Int)) = true := decide_eq_true c66
                      clear c66
                      obtain ⟨y164, hy164⟩ : ∃ y_ : List (S28), y_ = (t152.drop (1 : Int).toNat) := ⟨_, rfl⟩
                      replace H : (racewaylaw3_NetSames.j0 k t139 t140 t141 y146 t149 t150 t151 y164) = some r := by first | (rw [hy164]; with_reducible exact H) | (have H2_ := (Option.bind_some _ _).symm.trans H; rw [hy164]; with_reducible exact H2_) | (have H2_ := (Option.bind_some _ _).symm.trans H; with_reducible exact H2_) | with_reducible exact H | (rw [hy164]; exact H) | exact H
                      have Ny164 := Aside0.mk hy164
                      clear hy164
                      have H' := Aside0.mk H
                      clear H
                      have hnb67 := NB155_145.out
                      have hnc67 := NB145_155.out
                      have hcz68_0 : w31.cell? ⟨gb155, 0, none⟩ = some (.int .i64 t149) := (blk_cell BK155.out 0).trans rfl
                      have hcz68_1 : w31.cell? ⟨gb155, 1, none⟩ = some (.int .i64 t150) := (blk_cell BK155.out 1).trans rfl
                      have hcz68_2 : w31.cell? ⟨gb155, 2, none⟩ = some (.int .i64 t151) := (blk_cell BK155.out 2).trans rfl
                      have hcz68_3 : w31.cell? ⟨gb155, 3, none⟩ = some (.slice Ao30 t152.length co30) := (blk_cell BK155.out 3).trans rfl
                      have hfz68_0 := blk_frozen BK155.out 0
                      have hfz68_1 := blk_frozen BK155.out 1
                      have hfz68_2 := blk_frozen BK155.out 2
                      have hfz68_3 := blk_frozen BK155.out 3
                      have q69 : (1 : Int) ≤ ((t152.length : Int) : Int) := of_decide_eq_true (by first | (with_reducible assumption) | assumption)
                      obtain ⟨i069, hi069, _, hsz69, _⟩ := info_parts info28
                      have hcut69 := cut_from (P := Try.prog) 24 28 .i64 Try.underlying24 hi069 3 hsz69 Ao30 t152.length co30 1 (by omega) q69
                      have hr69 := Kd.Q_drop (k := (1 : Int).toNat) (Kd.Q_of_R HO154.out) (by omega)
                      obtain ⟨A69, hA69⟩ : ∃ A1, A1 = (if co30 = (1 : Int).toNat then Ao30 else (Ao30 : Option Addr).map (·.add ((1 : Int).toNat * 3))) := ⟨_, rfl⟩
                      obtain ⟨c69, hc69⟩ : ∃ c1, c1 = co30 - (1 : Int).toNat := ⟨_, rfl⟩
                      have hy69 : y164.length = t152.length - (1 : Int).toNat := (by rw [Ny164.out, List.length_drop])
                      rw [← Ny164.out] at hr69
                      rw [← hy69, ← hA69, ← hc69] at hcut69
                      replace hr69 : Kd.Q k28 28 w31 w.heap.size (fun k_ => some k_ ≠ (.slice Ao22 y146.length co22 : Value).ownBlock) (.slice A69 y164.length c69) y164 := (by rw [hA69, hc69, hy69]; exact hr69)
                      have HE69 : Aside0 ((Value.slice A69 y164.length c69).ownBlock = (.slice Ao30 t152.length co30 : Value).ownBlock) := ⟨by rw [hA69]; split <;> (cases (Ao30 : Option Addr) <;> rfl)⟩
                      clear hy69 hi069 hsz69 HO154 hA69 hc69
                      have HO166 := Aside0.mk hr69
                      clear hr69
                      replace q69 := eq_true q69
                      have n_ := Aside0.mk (Kd.R_mono (ok' := fun k_ => some k_ ≠ (.slice A69 y164.length c69 : Value).ownBlock) HO148.out (fun k_ hk => (by rw [HE69.out]; exact hk)))
                      clear HO148
                      have HO148 := n_
                      clear n_
                      go_wp2
                      go_meet
                      case rel => exact ⟨_, (y146), (t149), (t150), (t151), (y164), (.slice Ao22 y146.length co22), (.slice A69 y164.length c69), H', ⟨by first | omega | exact Nat.le_refl _⟩, ⟨Kd.Q_of_R (by (with_reducible repeat (first | apply Kd.R_alloc | apply Kd.R_drewN | apply Kd.R_drew)); exact Kd.R_mono (Kd.R_far (p := ⟨gb155, 3, none⟩) (Kd.R_types HO148.out BK155.out (by decide)) (fun _ hk => hk.2) (.slice A69 y164.length c69)) (fun _ hk => hk.1))⟩, ⟨by (with_reducible repeat (first | apply Kd.Q_alloc | apply Kd.Q_drewN | apply Kd.Q_drew)); exact Kd.Q_mono (Kd.Q_far (p := ⟨gb155, 3, none⟩) (Kd.Q_types HO166.out BK155.out (by decide)) (fun _ hk => hk.2) (.slice A69 y164.length c69)) (fun _ hk => hk.1)⟩, ⟨by (with_reducible repeat (first | refine blk_drewN ?_ _ | refine blk_drew ?_ | refine blk_alloc ?_ _)); refine blk_far ?_ NB145_155.out _; (with_reducible repeat (first | refine blk_drewN ?_ _ | refine blk_drew ?_ | refine blk_alloc ?_ _)); exact BK145.out⟩, ⟨by (with_reducible repeat (first | refine blk_drewN ?_ _ | refine blk_drew ?_ | refine blk_alloc ?_ _)); refine blk_put (cs := #[.int .i64 t149, .int .i64 t150, .int .i64 t151, .slice Ao30 t152.length co30]) ?_ 3 _ rfl; (with_reducible repeat (first | refine blk_drewN ?_ _ | refine blk_drew ?_ | refine blk_alloc ?_ _)); exact BK155.out⟩, ⟨by repeat (first | (with_reducible first | exact HB.out | apply below_alloc | apply pw_below_drewN | apply below_drew1 | refine below_set ?_ GE145.out | refine below_set ?_ GE155.out) | exact HB.out)⟩⟩
                    · rw [if_neg c66] at H
                      exact absurd H (by simp)
      case rest =>
        clear HC13
        try clear c1
        try clear p1
        try clear q1
        try clear hx1
        try clear c2
        try clear p2
        try clear c3
        try clear c4
        try clear p4
        try clear q4
        try clear hx4
        try clear c5
        try clear p5
        try clear q5
        try clear hx5
        try clear hf5
        try clear c6
        try clear p6
        try clear q6
        try clear hx6
        try clear hf6
        try clear c7
        try clear c9
        try clear c14
        try clear c15
        try clear p15
        try clear q15
        try clear hx15
        try clear p16
        try clear q16
        try clear hx16
        try clear c17
        try clear c18
        try clear c28
        try clear c33
        try clear c33b0
        try clear c33b1
        try clear c34
        try clear c36
        try clear c36b0
        try clear c36b1
        try clear c37
        try clear c39
        try clear c39b0
        try clear c39b1
        try clear c40
        try clear c42
        try clear c42b0
        try clear c42b1
        try clear c43
        try clear c43b0
        try clear c44
        try clear c44b0
        try clear c45
        try clear p45
        try clear q45
        try clear hx45
        try clear hf45
        try clear c46
        try clear c48
        try clear hx48
        try clear hf48
        try clear c50
        try clear c50b0
        try clear c50b1
        try clear c51
        try clear c51b0
        try clear c52
        try clear c52b0
        try clear c53
        try clear p53
        try clear q53
        try clear hx53
        try clear hf53
        try clear c54
        try clear c56
        try clear hx56
        try clear hf56
        try clear c58
        try clear c58b0
        try clear c58b1
        try clear c59
        try clear c59b0
        try clear c60
        try clear c60b0
        try clear c61
        try clear p61
        try clear q61
        try clear hx61
        try clear hf61
        try clear c62
        try clear c64
        try clear p64
        try clear hx64
        try clear hf64
        try clear c66
        try clear c66b0
        try clear c66b1
        try clear c67
        try clear c69
        try clear q69
        try clear hcz17_0
        try clear hcz17_1
        try clear hcz17_2
        try clear hcz17_3
        try clear hcz20_0
        try clear hcz20_1
        try clear hcz20_2
        try clear hcz20_3
        try clear hcz23_0
        try clear hcz23_1
        try clear hcz23_2
        try clear hcz23_3
        try clear hcz25_0
        try clear hcz25_1
        try clear hcz25_2
        try clear hcz25_3
        try clear hcz29_0
        try clear hcz29_1
        try clear hcz29_2
        try clear hcz29_3
        try clear hcz32_0
        try clear hcz32_1
        try clear hcz32_2
        try clear hcz32_3
        try clear hcz35_0
        try clear hcz35_1
        try clear hcz35_2
        try clear hcz35_3
        try clear hcz38_0
        try clear hcz38_1
        try clear hcz38_2
        try clear hcz38_3
        try clear hcz41_0
        try clear hcz41_1
        try clear hcz41_2
        try clear hcz41_3
        try clear hcz47_0
        try clear hcz47_1
        try clear hcz47_2
        try clear hcz47_3
        try clear hcz55_0
        try clear hcz55_1
        try clear hcz55_2
        try clear hcz55_3
        try clear hcz63_0
        try clear hcz63_1
        try clear hcz63_2
        try clear hcz63_3
        try clear hcz68_0
        try clear hcz68_1
        try clear hcz68_2
        try clear hcz68_3
        try clear hfz17_0
        try clear hfz17_1
        try clear hfz17_2
        try clear hfz17_3
        try clear hfz20_0
        try clear hfz20_1
        try clear hfz20_2
        try clear hfz20_3
        try clear hfz23_0
        try clear hfz23_1
        try clear hfz23_2
        try clear hfz23_3
        try clear hfz25_0
        try clear hfz25_1
        try clear hfz25_2
        try clear hfz25_3
        try clear hfz29_0
        try clear hfz29_1
        try clear hfz29_2
        try clear hfz29_3
        try clear hfz32_0
        try clear hfz32_1
        try clear hfz32_2
        try clear hfz32_3
        try clear hfz35_0
        try clear hfz35_1
        try clear hfz35_2
        try clear hfz35_3
        try clear hfz38_0
        try clear hfz38_1
        try clear hfz38_2
        try clear hfz38_3
        try clear hfz41_0
        try clear hfz41_1
        try clear hfz41_2
        try clear hfz41_3
        try clear hfz47_0
        try clear hfz47_1
        try clear hfz47_2
        try clear hfz47_3
        try clear hfz55_0
        try clear hfz55_1
        try clear hfz55_2
        try clear hfz55_3
        try clear hfz63_0
        try clear hfz63_1
        try clear hfz63_2
        try clear hfz63_3
        try clear hfz68_0
        try clear hfz68_1
        try clear hfz68_2
        try clear hfz68_3
        try clear hx158_0
        try clear hx158_1
        try clear hx158_2
        try clear hx160_0
        try clear hx160_1
        try clear hx160_2
        try clear hx162_0
        try clear hx162_1
        try clear hx162_2
        try clear hx45_0
        try clear hx45_1
        try clear hx45_2
        try clear hx48_0
        try clear hx53_0
        try clear hx53_1
        try clear hx53_2
        try clear hx56_1
        try clear hx61_0
        try clear hx61_1
        try clear hx61_2
        try clear hx64_2
        try clear p158
        try clear p160
        try clear p162
        try clear p45
        try clear p53
        try clear p61
        try clear q158
        try clear q160
        try clear q162
        try clear q45
        try clear q53
        try clear q61
        try clear q69
        obtain ⟨kq, x146003_12, x156000_12, x156001_12, x156002_12, x156003_12, u146003, u156003, HA, HJ12, HO_146003, HO_156003, BK145, BK155, HB⟩ := hcut
        cases kq with
        | zero => exact absurd HA.out (by simp [racewaylaw3_NetSames.j0])
        | succ kj12 =>
          have H := HA.out
          clear HA
          simp only [racewaylaw3_NetSames.j0] at H
          replace H := Option.bind_eq_some_iff.mp H
          obtain ⟨t167, A700, H⟩ := H
          replace H : (if t167 = true then ((net_Same.f t139 t140 t141 x146003_12 x156000_12 x156001_12 x156002_12 x156003_12).bind fun t168 => (if t168 = true then (some false) else ((net_Same.f x156000_12 x156001_12 x156002_12 x156003_12 t139 t140 t141 x146003_12).bind fun t169 => (if t169 = true then (some false) else ((net_Copy.f x156000_12 x156001_12 x156002_12 x156003_12).bind fun bt170 => ((net_Same.f bt170.1 bt170.2.1 bt170.2.2.1 bt170.2.2.2 x156000_12 x156001_12 x156002_12 x156003_12).bind fun t176 => (some t176))))))) else (some false)) = some r := H
          have A70 := Aside0.mk A700
          clear A700
          by_cases c71 : t167 = true
          · subst c71
            have H1 : ((net_Same.f t139 t140 t141 x146003_12 x156000_12 x156001_12 x156002_12 x156003_12).bind fun t168 => (if t168 = true then (some false) else ((net_Same.f x156000_12 x156001_12 x156002_12 x156003_12 t139 t140 t141 x146003_12).bind fun t169 => (if t169 = true then (some false) else ((net_Copy.f x156000_12 x156001_12 x156002_12 x156003_12).bind fun bt170 => ((net_Same.f bt170.1 bt170.2.1 bt170.2.2.1 bt170.2.2.2 x156000_12 x156001_12 x156002_12 x156003_12).bind fun t176 => (some t176))))))) = some r := by rw [if_pos rfl] at H; exact H
            clear H
            have H := H1
            clear H1
            replace H := Option.bind_eq_some_iff.mp H
            obtain ⟨t168, A720, H⟩ := H
            replace H : (if t168 = true then (some false) else ((net_Same.f x156000_12 x156001_12 x156002_12 x156003_12 t139 t140 t141 x146003_12).bind fun t169 => (if t169 = true then (some false) else ((net_Copy.f x156000_12 x156001_12 x156002_12 x156003_12).bind fun bt170 => ((net_Same.f bt170.1 bt170.2.1 bt170.2.2.1 bt170.2.2.2 x156000_12 x156001_12 x156002_12 x156003_12).bind fun t176 => (some t176)))))) = some r := H
            have A72 := Aside0.mk A720
            clear A720
            by_cases c73 : t168 = true
            · subst c73
              have H1 : (some false) = some r := by rw [if_pos rfl] at H; exact H
              clear H
              have H := H1
              clear H1
              exact absurd ((Option.some.inj H).trans hrT_.out) (by simp)
            · replace c73 := Bool.eq_false_iff.mpr c73
              subst c73
              have H1 : ((net_Same.f x156000_12 x156001_12 x156002_12 x156003_12 t139 t140 t141 x146003_12).bind fun t169 => (if t169 = true then (some false) else ((net_Copy.f x156000_12 x156001_12 x156002_12 x156003_12).bind fun bt170 => ((net_Same.f bt170.1 bt170.2.1 bt170.2.2.1 bt170.2.2.2 x156000_12 x156001_12 x156002_12 x156003_12).bind fun t176 => (some t176))))) = some r := by rw [if_neg (show ¬ (false = true) by decide)] at H; exact H
              clear H
              have H := H1
              clear H1
              replace H := Option.bind_eq_some_iff.mp H
              obtain ⟨t169, A740, H⟩ := H
              replace H : (if t169 = true then (some false) else ((net_Copy.f x156000_12 x156001_12 x156002_12 x156003_12).bind fun bt170 => ((net_Same.f bt170.1 bt170.2.1 bt170.2.2.1 bt170.2.2.2 x156000_12 x156001_12 x156002_12 x156003_12).bind fun t176 => (some t176)))) = some r := H
              have A74 := Aside0.mk A740
              clear A740
              by_cases c75 : t169 = true
              · subst c75
                have H1 : (some false) = some r := by rw [if_pos rfl] at H; exact H
                clear H
                have H := H1
                clear H1
                exact absurd ((Option.some.inj H).trans hrT_.out) (by simp)
              · replace c75 := Bool.eq_false_iff.mpr c75
                subst c75
                have H1 : ((net_Copy.f x156000_12 x156001_12 x156002_12 x156003_12).bind fun bt170 => ((net_Same.f bt170.1 bt170.2.1 bt170.2.2.1 bt170.2.2.2 x156000_12 x156001_12 x156002_12 x156003_12).bind fun t176 => (some t176))) = some r := by rw [if_neg (show ¬ (false = true) by decide)] at H; exact H
                clear H
                have H := H1
                clear H1
                replace H := Option.bind_eq_some_iff.mp H
                obtain ⟨⟨t170, t171, t172, t173⟩, A760, H⟩ := H
                replace H : ((net_Same.f t170 t171 t172 t173 x156000_12 x156001_12 x156002_12 x156003_12).bind fun t176 => (some t176)) = some r := H
                have A76 := Aside0.mk A760
                clear A760
                replace H := Option.bind_eq_some_iff.mp H
                obtain ⟨t176, A770, H⟩ := H
                replace H : (some t176) = some r := H
                have A77 := Aside0.mk A770
                clear A770
                obtain rfl := Option.some.inj H
                try go_wp2
                have n0_ := Aside0.mk (Kd.Q_drew HO_146003.out)
                have n1_ := Aside0.mk (Kd.Q_drew HO_156003.out)
                have n2_ := Aside0.mk (blk_drew BK145.out)
                have n3_ := Aside0.mk (blk_drew BK155.out)
                have n4_ := Aside0.mk (below_drew1 HB.out)
                clear HO_146003
                clear HO_156003
                clear BK145
                clear BK155
                clear HB
                have HO_146003 := n0_
                have HO_156003 := n1_
                have BK145 := n2_
                have BK155 := n3_
                have HB := n4_
                clear n0_ n1_ n2_ n3_ n4_
                obtain ⟨Ao79, co79, eo79, _⟩ := Kd.Q_slice HO_146003.out
                (first | subst eo79 | (injection eo79 with f1_ f2_ f3_; have f4_ := f1_.symm; have f5_ := f3_.symm; clear f1_ f2_ f3_; subst f4_; subst f5_))
                refine start_ (n := 22) (S := fun w' => w'.cell? ⟨gb145, 0, none⟩ = some (.int .i64 t139) ∧ w'.cell? ⟨gb145, 1, none⟩ = some (.int .i64 t140) ∧ w'.cell? ⟨gb145, 2, none⟩ = some (.int .i64 t141) ∧ w'.cell? ⟨gb145, 3, none⟩ = some (.slice Ao79 x146003_12.length co79) ∧ w'.cell? ⟨gb155, 0, none⟩ = some (.int .i64 x156000_12) ∧ w'.cell? ⟨gb155, 1, none⟩ = some (.int .i64 x156001_12) ∧ w'.cell? ⟨gb155, 2, none⟩ = some (.int .i64 x156002_12) ∧ w'.cell? ⟨gb155, 3, none⟩ = some (u156003)) (ds := []) #[false, false, false, false, false, false, false, false, false, false, false, false, false, false, false, false, false, false, false, false, false, false] (by kernel_rfl) rfl rfl ⟨(blk_cell BK145.out 0).trans rfl, (blk_cell BK145.out 1).trans rfl, (blk_cell BK145.out 2).trans rfl, (blk_cell BK145.out 3).trans rfl, (blk_cell BK155.out 0).trans rfl, (blk_cell BK155.out 1).trans rfl, (blk_cell BK155.out 2).trans rfl, (blk_cell BK155.out 3).trans rfl⟩ (fun hHeld => ?_); refine with_tabW racewaylaw3_NetSames.tab22 racewaylaw3_NetSames.bits22 (fun HT_ HW_ => ?_)
                generalize wc.drew = w78 at HO_146003 HO_156003 BK145 BK155 HB hHeld ⊢
                refine take_ (i := 0) (N := some 92) (v := ?_) (a' := ?_) #[true, false, false, false, false, false, false, false, false, false, false, false, false, false, false, false, false, false, false, false, false, false] rfl rfl (take_ofW HT_.out HW_.out (by kernel_rfl)) (fun _ _ _ h => h) (Or.inl ⟨by rfl, ?_⟩) hHeld ?_ ?_
                rotate_left
                · rintro w' ⟨s0, s1, s2, s3, s4, s5, s6, s7⟩
                  go_simp
                  with_reducible rfl
                rotate_left
                · simp only [Act.put, List.setIfInBounds_toArray, List.set_cons_zero, List.set_cons_succ, i64_w, i32_w]
                  rfl
                refine take_ (i := 1) (N := some 93) (v := ?_) (a' := ?_) #[true, true, false, false, false, false, false, false, false, false, false, false, false, false, false, false, false, false, false, false, false, false] rfl rfl (take_ofW HT_.out HW_.out (by kernel_rfl)) (fun _ _ _ h => h) (Or.inl ⟨by rfl, ?_⟩) hHeld ?_ ?_
                rotate_left
                · rintro w' ⟨s0, s1, s2, s3, s4, s5, s6, s7⟩
                  go_simp
                  with_reducible rfl
                rotate_left
                · simp only [Act.put, List.setIfInBounds_toArray, List.set_cons_zero, List.set_cons_succ, i64_w, i32_w]
                  rfl
                refine one_ (i := 2) (N := some 94) #[true, true, true, false, false, false, false, false, false, false, false, false, false, false, false, false, false, false, false, false, false, false] rfl rfl (one_of HT_.out (by kernel_rfl)) (by decide) (fun K hK => ?_)
                refine goes_ Try.func19 (by kernel_rfl) rfl #[.agg #[.int .i64 t139, .int .i64 t140, .int .i64 t141, .slice Ao79 x146003_12.length co79], .agg #[.int .i64 t139, .int .i64 t140, .int .i64 t141, .slice Ao79 x146003_12.length co79]] (by rfl) rfl rfl (by (try simp only [List.map_toArray, List.map_cons, List.map_nil]); first | done | rfl | (simp only [List.length_drop, List.length_take]; rfl)) ?_
                with_reducible refine (net_Same.calls t139 t140 t141 _ _ x146003_12 t139 t140 t141 _ _ x146003_12 true _ ?side1 ?side2 ?side3 ?side4 A70.out).mono ?_
                (case side1 => repeat (first | exact (Kd.Q_reads' HO_146003.out).2.2 | (with_reducible refine Kd.C_alloc ?_ _) | (with_reducible refine Kd.C_drewN ?_ _) | (with_reducible refine Kd.C_drew ?_)))
                (case side2 => exact (Kd.Q_reads' HO_146003.out).2.1)
                (case side3 => repeat (first | exact (Kd.Q_reads' HO_146003.out).2.2 | (with_reducible refine Kd.C_alloc ?_ _) | (with_reducible refine Kd.C_drewN ?_ _) | (with_reducible refine Kd.C_drew ?_)))
                (case side4 => exact (Kd.Q_reads' HO_146003.out).2.1)
                rintro e w80 ⟨rfl, hb⟩
                refine ⟨_, rfl, ?_⟩
                have n0_ := Aside0.mk (Kd.Q_below (by (with_reducible repeat (first | apply Kd.Q_alloc | apply Kd.Q_drewN | apply Kd.Q_drew)); exact HO_146003.out) hb)
                have n1_ := Aside0.mk (Kd.Q_below (by (with_reducible repeat (first | apply Kd.Q_alloc | apply Kd.Q_drewN | apply Kd.Q_drew)); exact HO_156003.out) hb)
                have n2_ := Aside0.mk (blk_below (g := gb145) (o := .cells #[.int .i64 t139, .int .i64 t140, .int .i64 t141, .slice Ao79 x146003_12.length co79] 26 (0, 0)) (by (with_reducible repeat (first | refine blk_drewN ?_ _ | refine blk_drew ?_ | refine blk_alloc ?_ _)); exact BK145.out) hb)
                have n3_ := Aside0.mk (blk_below (g := gb155) (o := .cells #[.int .i64 x156000_12, .int .i64 x156001_12, .int .i64 x156002_12, u156003] 26 (0, 0)) (by (with_reducible repeat (first | refine blk_drewN ?_ _ | refine blk_drew ?_ | refine blk_alloc ?_ _)); exact BK155.out) hb)
                have n4_ := Aside0.mk (below_step (by repeat (first | (with_reducible first | exact HB.out | apply below_alloc | apply pw_below_drewN | apply below_drew1 | refine below_set ?_ GE145.out | refine below_set ?_ GE155.out) | exact HB.out)) hb)
                clear HO_146003
                clear HO_156003
                clear BK145
                clear BK155
                clear HB
                have HO_146003 := n0_
                have HO_156003 := n1_
                have BK145 := n2_
                have BK155 := n3_
                have HB := n4_
                clear n0_ n1_ n2_ n3_ n4_
                (try clear hb)
                (try clear hb2)
                (try clear hk)
                (try clear hi)
                obtain ⟨Ao81, co81, eo81, _⟩ := Kd.Q_slice HO_156003.out
                (first | subst eo81 | (injection eo81 with f1_ f2_ f3_; have f4_ := f1_.symm; have f5_ := f3_.symm; clear f1_ f2_ f3_; subst f4_; subst f5_))
                refine hK.out _ _ ⟨(blk_cell BK145.out 0).trans rfl, (blk_cell BK145.out 1).trans rfl, (blk_cell BK145.out 2).trans rfl, (blk_cell BK145.out 3).trans rfl, (blk_cell BK155.out 0).trans rfl, (blk_cell BK155.out 1).trans rfl, (blk_cell BK155.out 2).trans rfl, (blk_cell BK155.out 3).trans rfl⟩ (fun hHeld => ?_)
                clear hK K
                refine norm_ (a' := ?_) ?_ ?_
                rotate_left
                · show Act.put _ (some 94) _ = _
                  simp only [Act.put, List.setIfInBounds_toArray, List.set_cons_zero, List.set_cons_succ, i64_w, i32_w]
                  rfl
                refine pure_ (i := 3) (N := some 95) (v := ?_) (a' := ?_) #[true, true, true, true, false, false, false, false, false, false, false, false, false, false, false, false, false, false, false, false, false, false] rfl rfl (any_of HT_.out (by kernel_rfl)) (fun _ _ _ h => h) (Or.inl ⟨by rfl, ?_⟩) ?_ ?_
                rotate_left
                · intro w'
                  go_simp
                  with_reducible rfl
                rotate_left
                · simp only [Act.put, List.setIfInBounds_toArray, List.set_cons_zero, List.set_cons_succ, i64_w, i32_w]
                  rfl
                refine take_ (i := 4) (N := some 96) (v := ?_) (a' := ?_) #[true, true, true, true, true, false, false, false, false, false, false, false, false, false, false, false, false, false, false, false, false, false] rfl rfl (take_ofW HT_.out HW_.out (by kernel_rfl)) (fun _ _ _ h => h) (Or.inl ⟨by rfl, ?_⟩) hHeld ?_ ?_
                rotate_left
                · rintro w' ⟨s0, s1, s2, s3, s4, s5, s6, s7⟩
                  go_simp
                  with_reducible rfl
                rotate_left
                · simp only [Act.put, List.setIfInBounds_toArray, List.set_cons_zero, List.set_cons_succ, i64_w, i32_w]
                  rfl
                refine take_ (i := 5) (N := some 97) (v := ?_) (a' := ?_) #[true, true, true, true, true, true, false, false, false, false, false, false, false, false, false, false, false, false, false, false, false, false] rfl rfl (take_ofW HT_.out HW_.out (by kernel_rfl)) (fun _ _ _ h => h) (Or.inl ⟨by rfl, ?_⟩) hHeld ?_ ?_
                rotate_left
                · rintro w' ⟨s0, s1, s2, s3, s4, s5, s6, s7⟩
                  go_simp
                  with_reducible rfl
                rotate_left
                · simp only [Act.put, List.setIfInBounds_toArray, List.set_cons_zero, List.set_cons_succ, i64_w, i32_w]
                  rfl
                refine one_ (i := 6) (N := some 98) #[true, true, true, true, true, true, true, false, false, false, false, false, false, false, false, false, false, false, false, false, false, false] rfl rfl (one_of HT_.out (by kernel_rfl)) (by decide) (fun K hK => ?_)
                refine goes_ Try.func19 (by kernel_rfl) rfl #[.agg #[.int .i64 t139, .int .i64 t140, .int .i64 t141, .slice Ao79 x146003_12.length co79], .agg #[.int .i64 x156000_12, .int .i64 x156001_12, .int .i64 x156002_12, .slice Ao81 x156003_12.length co81]] (by rfl) rfl rfl (by (try simp only [List.map_toArray, List.map_cons, List.map_nil]); first | done | rfl | (simp only [List.length_drop, List.length_take]; rfl)) ?_
                with_reducible refine (net_Same.calls t139 t140 t141 _ _ x146003_12 x156000_12 x156001_12 x156002_12 _ _ x156003_12 false _ ?side1 ?side2 ?side3 ?side4 A72.out).mono ?_
                (case side1 => repeat (first | exact (Kd.Q_reads' HO_146003.out).2.2 | (with_reducible refine Kd.C_alloc ?_ _) | (with_reducible refine Kd.C_drewN ?_ _) | (with_reducible refine Kd.C_drew ?_)))
                (case side2 => exact (Kd.Q_reads' HO_146003.out).2.1)
                (case side3 => repeat (first | exact (Kd.Q_reads' HO_156003.out).2.2 | (with_reducible refine Kd.C_alloc ?_ _) | (with_reducible refine Kd.C_drewN ?_ _) | (with_reducible refine Kd.C_drew ?_)))
                (case side4 => exact (Kd.Q_reads' HO_156003.out).2.1)
                rintro e w82 ⟨rfl, hb⟩
                refine ⟨_, rfl, ?_⟩
                have n0_ := Aside0.mk (Kd.Q_below (by (with_reducible repeat (first | apply Kd.Q_alloc | apply Kd.Q_drewN | apply Kd.Q_drew)); exact HO_146003.out) hb)
                have n1_ := Aside0.mk (Kd.Q_below (by (with_reducible repeat (first | apply Kd.Q_alloc | apply Kd.Q_drewN | apply Kd.Q_drew)); exact HO_156003.out) hb)
                have n2_ := Aside0.mk (blk_below (g := gb145) (o := .cells #[.int .i64 t139, .int .i64 t140, .int .i64 t141, .slice Ao79 x146003_12.length co79] 26 (0, 0)) (by (with_reducible repeat (first | refine blk_drewN ?_ _ | refine blk_drew ?_ | refine blk_alloc ?_ _)); exact BK145.out) hb)
                have n3_ := Aside0.mk (blk_below (g := gb155) (o := .cells #[.int .i64 x156000_12, .int .i64 x156001_12, .int .i64 x156002_12, .slice Ao81 x156003_12.length co81] 26 (0, 0)) (by (with_reducible repeat (first | refine blk_drewN ?_ _ | refine blk_drew ?_ | refine blk_alloc ?_ _)); exact BK155.out) hb)
                have n4_ := Aside0.mk (below_step (by repeat (first | (with_reducible first | exact HB.out | apply below_alloc | apply pw_below_drewN | apply below_drew1 | refine below_set ?_ GE145.out | refine below_set ?_ GE155.out) | exact HB.out)) hb)
                clear HO_146003
                clear HO_156003
                clear BK145
                clear BK155
                clear HB
                have HO_146003 := n0_
                have HO_156003 := n1_
                have BK145 := n2_
                have BK155 := n3_
                have HB := n4_
                clear n0_ n1_ n2_ n3_ n4_
                (try clear hb)
                (try clear hb2)
                (try clear hk)
                (try clear hi)
                refine hK.out _ _ ⟨(blk_cell BK145.out 0).trans rfl, (blk_cell BK145.out 1).trans rfl, (blk_cell BK145.out 2).trans rfl, (blk_cell BK145.out 3).trans rfl, (blk_cell BK155.out 0).trans rfl, (blk_cell BK155.out 1).trans rfl, (blk_cell BK155.out 2).trans rfl, (blk_cell BK155.out 3).trans rfl⟩ (fun hHeld => ?_)
                clear hK K
                refine norm_ (a' := ?_) ?_ ?_
                rotate_left
                · show Act.put _ (some 98) _ = _
                  simp only [Act.put, List.setIfInBounds_toArray, List.set_cons_zero, List.set_cons_succ, i64_w, i32_w]
                  rfl
                refine pure_ (i := 7) (N := some 99) (v := ?_) (a' := ?_) #[true, true, true, true, true, true, true, true, false, false, false, false, false, false, false, false, false, false, false, false, false, false] rfl rfl (any_of HT_.out (by kernel_rfl)) (fun _ _ _ h => h) (Or.inl ⟨by rfl, ?_⟩) ?_ ?_
                rotate_left
                · intro w'
                  go_simp
                  with_reducible rfl
                rotate_left
                · simp only [Act.put, List.setIfInBounds_toArray, List.set_cons_zero, List.set_cons_succ, i64_w, i32_w]
                  rfl
                refine pure_ (i := 8) (N := some 100) (v := ?_) (a' := ?_) #[true, true, true, true, true, true, true, true, true, false, false, false, false, false, false, false, false, false, false, false, false, false] rfl rfl (any_of HT_.out (by kernel_rfl)) (fun _ _ _ h => h) (Or.inl ⟨by rfl, ?_⟩) ?_ ?_
                rotate_left
                · intro w'
                  go_simp
                  with_reducible rfl
                rotate_left
                · simp only [Act.put, List.setIfInBounds_toArray, List.set_cons_zero, List.set_cons_succ, i64_w, i32_w]
                  rfl
                refine pure_ (i := 9) (N := some 101) (v := ?_) (a' := ?_) #[true, true, true, true, true, true, true, true, true, true, false, false, false, false, false, false, false, false, false, false, false, false] rfl rfl (any_of HT_.out (by kernel_rfl)) (fun _ _ _ h => h) (Or.inl ⟨by rfl, ?_⟩) ?_ ?_
                rotate_left
                · intro w'
                  go_simp
                  with_reducible rfl
                rotate_left
                · simp only [Act.put, List.setIfInBounds_toArray, List.set_cons_zero, List.set_cons_succ, i64_w, i32_w]
                  rfl
                refine take_ (i := 10) (N := some 102) (v := ?_) (a' := ?_) #[true, true, true, true, true, true, true, true, true, true, true, false, false, false, false, false, false, false, false, false, false, false] rfl rfl (take_ofW HT_.out HW_.out (by kernel_rfl)) (fun _ _ _ h => h) (Or.inl ⟨by rfl, ?_⟩) hHeld ?_ ?_
                rotate_left
                · rintro w' ⟨s0, s1, s2, s3, s4, s5, s6, s7⟩
                  go_simp
                  with_reducible rfl
                rotate_left
                · simp only [Act.put, List.setIfInBounds_toArray, List.set_cons_zero, List.set_cons_succ, i64_w, i32_w]
                  rfl
                refine take_ (i := 11) (N := some 103) (v := ?_) (a' := ?_) #[true, true, true, true, true, true, true, true, true, true, true, true, false, false, false, false, false, false, false, false, false, false] rfl rfl (take_ofW HT_.out HW_.out (by kernel_rfl)) (fun _ _ _ h => h) (Or.inl ⟨by rfl, ?_⟩) hHeld ?_ ?_
                rotate_left
                · rintro w' ⟨s0, s1, s2, s3, s4, s5, s6, s7⟩
                  go_simp
                  with_reducible rfl
                rotate_left
                · simp only [Act.put, List.setIfInBounds_toArray, List.set_cons_zero, List.set_cons_succ, i64_w, i32_w]
                  rfl
                refine one_ (i := 12) (N := some 104) #[true, true, true, true, true, true, true, true, true, true, true, true, true, false, false, false, false, false, false, false, false, false] rfl rfl (one_of HT_.out (by kernel_rfl)) (by decide) (fun K hK => ?_)
                refine goes_ Try.func19 (by kernel_rfl) rfl #[.agg #[.int .i64 x156000_12, .int .i64 x156001_12, .int .i64 x156002_12, .slice Ao81 x156003_12.length co81], .agg #[.int .i64 t139, .int .i64 t140, .int .i64 t141, .slice Ao79 x146003_12.length co79]] (by rfl) rfl rfl (by (try simp only [List.map_toArray, List.map_cons, List.map_nil]); first | done | rfl | (simp only [List.length_drop, List.length_take]; rfl)) ?_
                with_reducible refine (net_Same.calls x156000_12 x156001_12 x156002_12 _ _ x156003_12 t139 t140 t141 _ _ x146003_12 false _ ?side1 ?side2 ?side3 ?side4 A74.out).mono ?_
                (case side1 => repeat (first | exact (Kd.Q_reads' HO_156003.out).2.2 | (with_reducible refine Kd.C_alloc ?_ _) | (with_reducible refine Kd.C_drewN ?_ _) | (with_reducible refine Kd.C_drew ?_)))
                (case side2 => exact (Kd.Q_reads' HO_156003.out).2.1)
                (case side3 => repeat (first | exact (Kd.Q_reads' HO_146003.out).2.2 | (with_reducible refine Kd.C_alloc ?_ _) | (with_reducible refine Kd.C_drewN ?_ _) | (with_reducible refine Kd.C_drew ?_)))
                (case side4 => exact (Kd.Q_reads' HO_146003.out).2.1)
                rintro e w83 ⟨rfl, hb⟩
                refine ⟨_, rfl, ?_⟩
                have n0_ := Aside0.mk (Kd.Q_below (by (with_reducible repeat (first | apply Kd.Q_alloc | apply Kd.Q_drewN | apply Kd.Q_drew)); exact HO_146003.out) hb)
                have n1_ := Aside0.mk (Kd.Q_below (by (with_reducible repeat (first | apply Kd.Q_alloc | apply Kd.Q_drewN | apply Kd.Q_drew)); exact HO_156003.out) hb)
                have n2_ := Aside0.mk (blk_below (g := gb145) (o := .cells #[.int .i64 t139, .int .i64 t140, .int .i64 t141, .slice Ao79 x146003_12.length co79] 26 (0, 0)) (by (with_reducible repeat (first | refine blk_drewN ?_ _ | refine blk_drew ?_ | refine blk_alloc ?_ _)); exact BK145.out) hb)
                have n3_ := Aside0.mk (blk_below (g := gb155) (o := .cells #[.int .i64 x156000_12, .int .i64 x156001_12, .int .i64 x156002_12, .slice Ao81 x156003_12.length co81] 26 (0, 0)) (by (with_reducible repeat (first | refine blk_drewN ?_ _ | refine blk_drew ?_ | refine blk_alloc ?_ _)); exact BK155.out) hb)
                have n4_ := Aside0.mk (below_step (by repeat (first | (with_reducible first | exact HB.out | apply below_alloc | apply pw_below_drewN | apply below_drew1 | refine below_set ?_ GE145.out | refine below_set ?_ GE155.out) | exact HB.out)) hb)
                clear HO_146003
                clear HO_156003
                clear BK145
                clear BK155
                clear HB
                have HO_146003 := n0_
                have HO_156003 := n1_
                have BK145 := n2_
                have BK155 := n3_
                have HB := n4_
                clear n0_ n1_ n2_ n3_ n4_
                (try clear hb)
                (try clear hb2)
                (try clear hk)
                (try clear hi)
                refine hK.out _ _ ⟨(blk_cell BK145.out 0).trans rfl, (blk_cell BK145.out 1).trans rfl, (blk_cell BK145.out 2).trans rfl, (blk_cell BK145.out 3).trans rfl, (blk_cell BK155.out 0).trans rfl, (blk_cell BK155.out 1).trans rfl, (blk_cell BK155.out 2).trans rfl, (blk_cell BK155.out 3).trans rfl⟩ (fun hHeld => ?_)
                clear hK K
                refine norm_ (a' := ?_) ?_ ?_
                rotate_left
                · show Act.put _ (some 104) _ = _
                  simp only [Act.put, List.setIfInBounds_toArray, List.set_cons_zero, List.set_cons_succ, i64_w, i32_w]
                  rfl
                refine pure_ (i := 13) (N := some 105) (v := ?_) (a' := ?_) #[true, true, true, true, true, true, true, true, true, true, true, true, true, true, false, false, false, false, false, false, false, false] rfl rfl (any_of HT_.out (by kernel_rfl)) (fun _ _ _ h => h) (Or.inl ⟨by rfl, ?_⟩) ?_ ?_
                rotate_left
                · intro w'
                  go_simp
                  with_reducible rfl
                rotate_left
                · simp only [Act.put, List.setIfInBounds_toArray, List.set_cons_zero, List.set_cons_succ, i64_w, i32_w]
                  rfl
                refine pure_ (i := 14) (N := some 106) (v := ?_) (a' := ?_) #[true, true, true, true, true, true, true, true, true, true, true, true, true, true, true, false, false, false, false, false, false, false] rfl rfl (any_of HT_.out (by kernel_rfl)) (fun _ _ _ h => h) (Or.inl ⟨by rfl, ?_⟩) ?_ ?_
                rotate_left
                · intro w'
                  go_simp
                  with_reducible rfl
                rotate_left
                · simp only [Act.put, List.setIfInBounds_toArray, List.set_cons_zero, List.set_cons_succ, i64_w, i32_w]
                  rfl
                refine pure_ (i := 15) (N := some 107) (v := ?_) (a' := ?_) #[true, true, true, true, true, true, true, true, true, true, true, true, true, true, true, true, false, false, false, false, false, false] rfl rfl (any_of HT_.out (by kernel_rfl)) (fun _ _ _ h => h) (Or.inl ⟨by rfl, ?_⟩) ?_ ?_
                rotate_left
                · intro w'
                  go_simp
                  with_reducible rfl
                rotate_left
                · simp only [Act.put, List.setIfInBounds_toArray, List.set_cons_zero, List.set_cons_succ, i64_w, i32_w]
                  rfl
                refine take_ (i := 16) (N := some 108) (v := ?_) (a' := ?_) #[true, true, true, true, true, true, true, true, true, true, true, true, true, true, true, true, true, false, false, false, false, false] rfl rfl (take_ofW HT_.out HW_.out (by kernel_rfl)) (fun _ _ _ h => h) (Or.inl ⟨by rfl, ?_⟩) hHeld ?_ ?_
                rotate_left
                · rintro w' ⟨s0, s1, s2, s3, s4, s5, s6, s7⟩
                  go_simp
                  with_reducible rfl
                rotate_left
                · simp only [Act.put, List.setIfInBounds_toArray, List.set_cons_zero, List.set_cons_succ, i64_w, i32_w]
                  rfl
                refine take_ (i := 18) (N := some 110) (v := ?_) (a' := ?_) #[true, true, true, true, true, true, true, true, true, true, true, true, true, true, true, true, true, false, true, false, false, false] rfl rfl (take_ofW HT_.out HW_.out (by kernel_rfl)) (fun _ _ _ h => h) (Or.inl ⟨by rfl, ?_⟩) hHeld ?_ ?_
                rotate_left
                · rintro w' ⟨s0, s1, s2, s3, s4, s5, s6, s7⟩
                  go_simp
                  with_reducible rfl
                rotate_left
                · simp only [Act.put, List.setIfInBounds_toArray, List.set_cons_zero, List.set_cons_succ, i64_w, i32_w]
                  rfl
                refine one_ (i := 17) (N := some 109) #[true, true, true, true, true, true, true, true, true, true, true, true, true, true, true, true, true, true, true, false, false, false] rfl rfl (one_of HT_.out (by kernel_rfl)) (by decide) (fun K hK => ?_)
                refine goes_ Try.func18 (by kernel_rfl) rfl #[.agg #[.int .i64 x156000_12, .int .i64 x156001_12, .int .i64 x156002_12, .slice Ao81 x156003_12.length co81]] (by rfl) rfl rfl (by (try simp only [List.map_toArray, List.map_cons, List.map_nil]); first | done | rfl | (simp only [List.length_drop, List.length_take]; rfl)) ?_
                with_reducible refine (net_Copy.calls x156000_12 x156001_12 x156002_12 _ _ x156003_12 t170 t171 t172 t173 _ ?side1 ?side2 A76.out).mono ?_
                (case side1 => repeat (first | exact (Kd.Q_reads' HO_156003.out).2.2 | (with_reducible refine Kd.C_alloc ?_ _) | (with_reducible refine Kd.C_drewN ?_ _) | (with_reducible refine Kd.C_drew ?_)))
                (case side2 => exact (Kd.Q_reads' HO_156003.out).2.1)
                rintro e w84 ⟨v174, rfl, ho0, hb⟩
                refine ⟨_, rfl, ?_⟩
                have n0_ := Aside0.mk (Kd.Q_elder' (by (with_reducible repeat (first | apply Kd.Q_alloc | apply Kd.Q_drewN | apply Kd.Q_drew)); exact HO_146003.out) (Kd.R_base ho0) hb)
                have n1_ := Aside0.mk (Kd.Q_elder' (by (with_reducible repeat (first | apply Kd.Q_alloc | apply Kd.Q_drewN | apply Kd.Q_drew)); exact HO_156003.out) (Kd.R_base ho0) hb)
                have n2_ := Aside0.mk (Kd.R_lower (Kd.R_new' (Kd.R_new' ho0 (Kd.Q_lt (by (with_reducible repeat (first | apply Kd.Q_alloc | apply Kd.Q_drewN | apply Kd.Q_drew)); exact HO_146003.out))) (Kd.Q_lt (by (with_reducible repeat (first | apply Kd.Q_alloc | apply Kd.Q_drewN | apply Kd.Q_drew)); exact HO_156003.out))) (below_size (by repeat (first | (with_reducible first | exact HB.out | apply below_alloc | apply pw_below_drewN | apply below_drew1 | refine below_set ?_ GE145.out | refine below_set ?_ GE155.out) | exact HB.out))))
                have n3_ := Aside0.mk (blk_below (g := gb145) (o := .cells #[.int .i64 t139, .int .i64 t140, .int .i64 t141, .slice Ao79 x146003_12.length co79] 26 (0, 0)) (by (with_reducible repeat (first | refine blk_drewN ?_ _ | refine blk_drew ?_ | refine blk_alloc ?_ _)); exact BK145.out) hb)
                have n4_ := Aside0.mk (blk_below (g := gb155) (o := .cells #[.int .i64 x156000_12, .int .i64 x156001_12, .int .i64 x156002_12, .slice Ao81 x156003_12.length co81] 26 (0, 0)) (by (with_reducible repeat (first | refine blk_drewN ?_ _ | refine blk_drew ?_ | refine blk_alloc ?_ _)); exact BK155.out) hb)
                have n5_ := Aside0.mk (below_step (by repeat (first | (with_reducible first | exact HB.out | apply below_alloc | apply pw_below_drewN | apply below_drew1 | refine below_set ?_ GE145.out | refine below_set ?_ GE155.out) | exact HB.out)) hb)
                clear HO_146003
                clear HO_156003
                clear BK145
                clear BK155
                clear HB
                have HO_146003 := n0_
                have HO_156003 := n1_
                have HO175 := n2_
                have BK145 := n3_
                have BK155 := n4_
                have HB := n5_
                clear n0_ n1_ n2_ n3_ n4_ n5_
                (try clear hb)
                (try clear hb2)
                (try clear hk)
                (try clear hi)
                (try clear ho0)
                obtain ⟨Ao85, co85, eo85⟩ := Kd.R_slice HO175.out
                (first | subst eo85 | (injection eo85 with f1_ f2_ f3_; have f4_ := f1_.symm; have f5_ := f3_.symm; clear f1_ f2_ f3_; subst f4_; subst f5_))
                refine hK.out _ _ ⟨(blk_cell BK145.out 0).trans rfl, (blk_cell BK145.out 1).trans rfl, (blk_cell BK145.out 2).trans rfl, (blk_cell BK145.out 3).trans rfl, (blk_cell BK155.out 0).trans rfl, (blk_cell BK155.out 1).trans rfl, (blk_cell BK155.out 2).trans rfl, (blk_cell BK155.out 3).trans rfl⟩ (fun hHeld => ?_)
                clear hK K
                refine norm_ (a' := ?_) ?_ ?_
                rotate_left
                · show Act.put _ (some 109) _ = _
                  simp only [Act.put, List.setIfInBounds_toArray, List.set_cons_zero, List.set_cons_succ, i64_w, i32_w]
                  rfl
                refine one_ (i := 19) (N := some 111) #[true, true, true, true, true, true, true, true, true, true, true, true, true, true, true, true, true, true, true, true, false, false] rfl rfl (one_of HT_.out (by kernel_rfl)) (by decide) (fun K hK => ?_)
                refine goes_ Try.func19 (by kernel_rfl) rfl #[.agg #[.int .i64 t170, .int .i64 t171, .int .i64 t172, .slice Ao85 t173.length co85], .agg #[.int .i64 x156000_12, .int .i64 x156001_12, .int .i64 x156002_12, .slice Ao81 x156003_12.length co81]] (by rfl) rfl rfl (by (try simp only [List.map_toArray, List.map_cons, List.map_nil]); first | done | rfl | (simp only [List.length_drop, List.length_take]; rfl)) ?_
                with_reducible refine (net_Same.calls t170 t171 t172 _ _ t173 x156000_12 x156001_12 x156002_12 _ _ x156003_12 t176 _ ?side1 ?side2 ?side3 ?side4 A77.out).mono ?_
                (case side1 => repeat (first | exact (Kd.R_reads' HO175.out).2.2 | (with_reducible refine Kd.C_alloc ?_ _) | (with_reducible refine Kd.C_drewN ?_ _) | (with_reducible refine Kd.C_drew ?_)))
                (case side2 => exact (Kd.R_reads' HO175.out).2.1)
                (case side3 => repeat (first | exact (Kd.Q_reads' HO_156003.out).2.2 | (with_reducible refine Kd.C_alloc ?_ _) | (with_reducible refine Kd.C_drewN ?_ _) | (with_reducible refine Kd.C_drew ?_)))
                (case side4 => exact (Kd.Q_reads' HO_156003.out).2.1)
                rintro e w86 ⟨rfl, hb⟩
                refine ⟨_, rfl, ?_⟩
                have n0_ := Aside0.mk (Kd.Q_below (by (with_reducible repeat (first | apply Kd.Q_alloc | apply Kd.Q_drewN | apply Kd.Q_drew)); exact HO_146003.out) hb)
                have n1_ := Aside0.mk (Kd.Q_below (by (with_reducible repeat (first | apply Kd.Q_alloc | apply Kd.Q_drewN | apply Kd.Q_drew)); exact HO_156003.out) hb)
                have n2_ := Aside0.mk (Kd.R_below (by (with_reducible repeat (first | apply Kd.R_alloc | apply Kd.R_drewN | apply Kd.R_drew)); exact HO175.out) hb)
                have n3_ := Aside0.mk (blk_below (g := gb145) (o := .cells #[.int .i64 t139, .int .i64 t140, .int .i64 t141, .slice Ao79 x146003_12.length co79] 26 (0, 0)) (by (with_reducible repeat (first | refine blk_drewN ?_ _ | refine blk_drew ?_ | refine blk_alloc ?_ _)); exact BK145.out) hb)
                have n4_ := Aside0.mk (blk_below (g := gb155) (o := .cells #[.int .i64 x156000_12, .int .i64 x156001_12, .int .i64 x156002_12, .slice Ao81 x156003_12.length co81] 26 (0, 0)) (by (with_reducible repeat (first | refine blk_drewN ?_ _ | refine blk_drew ?_ | refine blk_alloc ?_ _)); exact BK155.out) hb)
                have n5_ := Aside0.mk (below_step (by repeat (first | (with_reducible first | exact HB.out | apply below_alloc | apply pw_below_drewN | apply below_drew1 | refine below_set ?_ GE145.out | refine below_set ?_ GE155.out) | exact HB.out)) hb)
                clear HO_146003
                clear HO_156003
                clear HO175
                clear BK145
                clear BK155
                clear HB
                have HO_146003 := n0_
                have HO_156003 := n1_
                have HO175 := n2_
                have BK145 := n3_
                have BK155 := n4_
                have HB := n5_
                clear n0_ n1_ n2_ n3_ n4_ n5_
                (try clear hb)
                (try clear hb2)
                (try clear hk)
                (try clear hi)
                refine hK.out _ _ ⟨(blk_cell BK145.out 0).trans rfl, (blk_cell BK145.out 1).trans rfl, (blk_cell BK145.out 2).trans rfl, (blk_cell BK145.out 3).trans rfl, (blk_cell BK155.out 0).trans rfl, (blk_cell BK155.out 1).trans rfl, (blk_cell BK155.out 2).trans rfl, (blk_cell BK155.out 3).trans rfl⟩ (fun hHeld => ?_)
                clear hK K
                refine norm_ (a' := ?_) ?_ ?_
                rotate_left
                · show Act.put _ (some 111) _ = _
                  simp only [Act.put, List.setIfInBounds_toArray, List.set_cons_zero, List.set_cons_succ, i64_w, i32_w]
                  rfl
                refine pure_ (i := 20) (N := some 112) (v := ?_) (a' := ?_) #[true, true, true, true, true, true, true, true, true, true, true, true, true, true, true, true, true, true, true, true, true, false] rfl rfl (any_of HT_.out (by kernel_rfl)) (fun _ _ _ h => h) (Or.inl ⟨by rfl, ?_⟩) ?_ ?_
                rotate_left
                · intro w'
                  go_simp
                  with_reducible rfl
                rotate_left
                · simp only [Act.put, List.setIfInBounds_toArray, List.set_cons_zero, List.set_cons_succ, i64_w, i32_w]
                  rfl
                refine pure_ (i := 21) (N := some 10) (v := ?_) (a' := ?_) #[true, true, true, true, true, true, true, true, true, true, true, true, true, true, true, true, true, true, true, true, true, true] rfl rfl (any_of HT_.out (by kernel_rfl)) (fun _ _ _ h => h) (Or.inl ⟨by rfl, ?_⟩) ?_ ?_
                rotate_left
                · intro w'
                  go_simp
                  with_reducible rfl
                rotate_left
                · simp only [Act.put, List.setIfInBounds_toArray, List.set_cons_zero, List.set_cons_succ, i64_w, i32_w]
                  rfl
                refine done_ (done_of HT_.out (by kernel_rfl)) ?_
                try go_wp2
                go_ret
                exact ⟨by first | rfl | (simp [errW_none, errW_some] <;> rfl) | (simp [*, errW_none, errW_some] <;> rfl), by repeat (first | (with_reducible first | exact HB.out | apply below_alloc | apply pw_below_drewN | apply below_drew1 | refine below_set ?_ GE145.out | refine below_set ?_ GE155.out) | exact HB.out)⟩
          · replace c71 := Bool.eq_false_iff.mpr c71
            subst c71
            have H1 : (some false) = some r := by rw [if_neg (show ¬ (false = true) by decide)] at H; exact H
            clear H
            have H := H1
            clear H1
            exact absurd ((Option.some.inj H).trans hrT_.out) (by simp)
    · rw [if_neg c9] at H
      exact absurd H (by simp)
  · replace c7 := Bool.eq_false_iff.mpr c7
    subst c7
    have H1 : (some false) = some r := by rw [if_neg (show ¬ (false = true) by decide)] at H; exact H
    clear H
    have H := H1
    clear H1
    exact absurd ((Option.some.inj H).trans hrT_.out) (by simp)

/-- THE ONE PURE STATEMENT of racewaylaw3_NetSames. -/
def racewaylaw3_NetSames.Pure : Prop := ∀ (a0 : Int) (a1 : Int) (l2 : List (S41)) (a3 : Int) (a4 : Int), (Lit.int .i64 a0).wf = true → (Lit.int .i64 a1).wf = true → l2.length ≤ maxLen → (∀ x ∈ l2, (Lit.int .i64 x.f0).wf = true ∧ (Lit.int .i64 x.f1).wf = true ∧ (Lit.int .i64 x.f2).wf = true) → (Lit.int .i64 a3).wf = true → (Lit.int .i64 a4).wf = true → ∃ k, racewaylaw3_NetSames.f k a0 a1 l2 a3 a4 = some true
theorem racewaylaw3_NetSames.walk (P : racewaylaw3_NetSames.Pure) (a0 : Int) (a1 : Int) (A2 : Option Addr) (c2 : Nat) (l2 : List (S41)) (a3 : Int) (a4 : Int) (w : World) (w0 : (Lit.int .i64 a0).wf = true) (w1 : (Lit.int .i64 a1).wf = true) (hr2 : Kd.C k41 w A2 l2.length l2) (hc2 : l2.length ≤ c2) (hm2 : l2.length ≤ maxLen) (hw2 : (∀ x ∈ l2, (Lit.int .i64 x.f0).wf = true ∧ (Lit.int .i64 x.f1).wf = true ∧ (Lit.int .i64 x.f2).wf = true)) (w3 : (Lit.int .i64 a3).wf = true) (w4 : (Lit.int .i64 a4).wf = true) :
    Calls Try.prog 4 #[.int .i64 a0, .int .i64 a1, .slice A2 l2.length c2, .int .i64 a3, .int .i64 a4] w fun e w' => e = .returned (.bool true) ∧ Below w.heap.size w w' := by
  obtain ⟨k, h⟩ := P a0 a1 l2 a3 a4 w0 w1 hm2 hw2 w3 w4
  refine (racewaylaw3_NetSames.calls k a0 a1 _ _ l2 a3 a4 true w hr2 hc2 h ⟨rfl⟩).mono ?_
  rintro e w' ⟨rfl, hd⟩
  exact ⟨rfl, hd⟩

end Go.Proofs.Ytjbeofcgnnlllaa.PNetSames
