/- For the law PlainAgain, for every input: printed by a program (wip/myprint), contracts by hand where it says MANUAL. -/
-- slim
import Derived.Test.YtdiaedecnfbgdaaPPlainAgainx0
import Derived.Test.YtdiaedecnfbgdaaPPlainAgainx7
import Derived.Test.YtdiaedecnfbgdaaPPlainAgainx8
import Derived.Deep.RegionLaw
namespace Go.Proofs.Ytdiaedecnfbgdaa.PPlainAgain
open Go.RowKit Go.Proofs.YtdiaedecnfbgdaaW.PrintWords Go.Proofs.YtdiaedecnfbgdaaW.PrintLast Go.Proofs.YtdiaedecnfbgdaaW.PrintMore
attribute [local go_sem] max2_int min2_int max_two min_two max_three min_three max_four min_four
set_option linter.unusedVariables false
set_option linter.unusedSimpArgs false
/-! ### residual_Reach: function 32 -/
-- MANUAL: this contract was written by hand.
open Go.Proofs.YtdiaedecnfbgdaaW.Mine
/-- Where a track begins, and where it ends. -/
def rcFrom (l : List S30) (r : Int) : Int := if r % 2 = 1 then (rd_T30 l (r / 2)).f1 else (rd_T30 l (r / 2)).f0
def rcTo (l : List S30) (r : Int) : Int := if r % 2 = 1 then (rd_T30 l (r / 2)).f0 else (rd_T30 l (r / 2)).f1
theorem rcEnds {n s t r : Int} {l : List S30} (h0 : 0 ≤ r) (h1 : r < 2 * (l.length : Int)) (hl : l.length ≤ 2000) : residual_Ends.f 1 n s t l r = some (rcFrom l r, rcTo l r) := by
 have hd : Int.tdiv r 2 = r / 2 := Int.tdiv_eq_ediv_of_nonneg h0
 have hw : wrap64 (r / 2) = r / 2 := by unfold wrap64; omega
 have hb : Go.bits .and .i64 r 1 = r % 2 := by
  have := bits_mask .i64 63 (by decide) (fun n h0 h1 => by rw [IntKind.wrap_i64]; omega) 1 (by decide) r h0 (by omega)
  simpa using this
 unfold residual_Ends.f
 rw [if_neg (by omega)]
 simp only [residual_Ends.j0, hd, hw, hb]
 rw [if_neg (by simp; omega), if_pos (by omega), if_pos (by omega)]
 unfold rcFrom rcTo
 by_cases c : r % 2 = 1
 ·rw [if_pos c, if_pos c, if_pos c]
 ·rw [if_neg c, if_neg c, if_neg c]
/-- The first track with room to a node that one was not in, and what stands behind it. -/
def rcFind (l : List S30) (room : List Int) (least : Int) (met : List Bool) : List Int → Option (Int × List Int)
 | [] => none
 | r :: rs => if least ≤ rd room r ∧ rdOf false met (rcTo l r) = false then some (rcTo l r, rs) else rcFind l room least met rs
def rcWalk (l : List S30) (room : List Int) (least : Int) : Nat → List (List Int) → List Bool → List Int → Option (List Bool)
 | 0, _, _, _ => none
 | f + 1, ts, met, wait =>
  if wait.length = 0 then some met
  else if wait.length ≤ 1000000 then
   match rcFind l room least met (ts.getD (rd wait ((wait.length : Int) - 1)).toNat []) with
   | some (q, rs) => rcWalk l room least f (ts.set (rd wait ((wait.length : Int) - 1)).toNat rs) (met.set q.toNat true) (wait ++ [q])
   | none => rcWalk l room least f ts met (wait.take (wait.length - 1))
  else none
def rcFit (n s : Int) (l : List S30) (room : List Int) : Bool := decide (1 ≤ n ∧ n ≤ 1000000 ∧ 0 ≤ s ∧ s ≤ n ∧ l.length ≤ 2000 ∧ room.length = 2 * l.length) && l.all fun a => decide (0 ≤ a.f0 ∧ a.f0 ≤ n ∧ 0 ≤ a.f1 ∧ a.f1 ≤ n)
def residual_Reach.f (k : Nat) (a0_0 : Int) (a0_1 : Int) (a0_2 : Int) (l0_3 : List (S30)) (l1 : List Int) (a2 : Int) : Option (List Bool × Int) := (residual_Room.f k a0_0 a0_1 a0_2 l0_3 l1).bind fun p => if p.2 = 0 then (if a2 < 1 then some ([], 3) else if rcFit a0_0 a0_1 l0_3 p.1 = true then (rcWalk l0_3 p.1 a2 k (trAll (rcFrom l0_3) (a0_0 + 1).toNat p.1.length) ((List.replicate (a0_0 + 1).toNat false).set a0_1.toNat true) [a0_1]).bind (fun o => some (o, 0)) else none) else some ([], p.2)
theorem rcWalk.mono (l : List S30) (room : List Int) (least : Int) : ∀ (f : Nat) (ts : List (List Int)) (met : List Bool) (wait : List Int), LeO (rcWalk l room least f ts met wait) (rcWalk l room least (f + 1) ts met wait)
 | 0, _, _, _ => fun r h => by simp [rcWalk] at h
 | f + 1, ts, met, wait => by
  rw [rcWalk, rcWalk]
  refine LeO.ite (LeO.refl _) (LeO.ite ?_ (LeO.none _))
  split
  ·exact rcWalk.mono l room least f _ _ _
  ·exact rcWalk.mono l room least f _ _ _
theorem residual_Reach.mono : ∀ a0 a1 a2 a3 a4 a5 k, LeO (residual_Reach.f k a0 a1 a2 a3 a4 a5) (residual_Reach.f (k + 1) a0 a1 a2 a3 a4 a5) := by
 intro a0 a1 a2 a3 a4 a5 k
 unfold residual_Reach.f
 refine LeO.bind (residual_Room.mono _ _ _ _ _ _) (fun p => LeO.ite (LeO.ite (LeO.refl _) (LeO.ite (LeO.bind (rcWalk.mono _ _ _ _ _ _ _) (fun _ => LeO.refl _)) (LeO.refl _))) (LeO.refl _))
theorem rcTo_in {n s : Int} {l : List S30} {room : List Int} (h : rcFit n s l room = true) {r : Int} (h0 : 0 ≤ r) (h1 : r < (room.length : Int)) : (0 ≤ rcFrom l r ∧ rcFrom l r ≤ n) ∧ 0 ≤ rcTo l r ∧ rcTo l r ≤ n := by
 simp only [rcFit, Bool.and_eq_true, decide_eq_true_eq, List.all_eq_true] at h
 obtain ⟨⟨g0, g1, g2, g3, g4, g5⟩, hl⟩ := h
 have hlt : (r / 2).toNat < l.length := by omega
 have e : rd_T30 l (r / 2) = l[(r / 2).toNat] := by simp [rd_T30, hlt]
 have ha := hl _ (List.getElem_mem hlt)
 rw [← e] at ha
 unfold rcFrom rcTo
 split <;> omega
theorem rc_succ {j : Nat} (h : j < 9223372036854775807) : Value.int .i64 (wrap64 ((j : Int) + 1)) = Value.int .i64 ((j + 1 : Nat) : Int) := by
 have e : wrap64 ((j : Int) + 1) = ((j + 1 : Nat) : Int) := by unfold wrap64; omega
 rw [e]
set_option maxHeartbeats 8000000 in
set_option maxRecDepth 100000 in
theorem residual_Reach.calls (k : Nat) (a0_0 : Int) (a0_1 : Int) (a0_2 : Int) (A0_3 : Option Addr) (c0_3 : Nat) (l0_3 : List (S30)) (A1 : Option Addr) (c1 : Nat) (l1 : List Int) (a2 : Int) (r1 : List Bool) (r2 : Int) (w : World) (hr0_3 : Kd.C k30 w A0_3 l0_3.length l0_3) (hc0_3 : l0_3.length ≤ c0_3) (hr1 : Kd.C (Kd.int .i64) w A1 l1.length l1) (hc1 : l1.length ≤ c1) (h : residual_Reach.f k a0_0 a0_1 a0_2 l0_3 l1 a2 = some (r1, r2)) :
  Calls Try.prog 32 #[.agg #[.int .i64 a0_0, .int .i64 a0_1, .int .i64 a0_2, .slice A0_3 l0_3.length c0_3], .slice A1 l1.length c1, .int .i64 a2] w fun e w' => ∃ v0_ : Value, e = .returned (.tuple #[v0_, .int .i64 r2]) ∧ Kd.R Kd.bool 4 w' w.heap.size (fun _ => True) v0_ r1 ∧ Below w.heap.size w w' := by
 have hu26 := Try.underlying26
 have hu28 := Try.underlying30
 unfold residual_Reach.f at h
 obtain ⟨⟨room, er⟩, hroom, h⟩ := Option.bind_eq_some_iff.mp h
 simp only at h
 have HRM := Aside0.mk hroom
 have HR := Aside0.mk hr0_3
 have HC := Aside0.mk hc0_3
 have HF := Aside0.mk hr1
 have HC1 := Aside0.mk hc1
 have HB := Aside0.mk (Below.refl w.heap.size w)
 clear hroom hr0_3 hc0_3 hr1 hc1
 by_cases e0 : er = 0
 ·rw [if_pos e0] at h
  subst e0
  by_cases e1 : a2 < 1
  ·rw [if_pos e1] at h
   (simp only [Option.some.injEq, Prod.mk.injEq] at h);(obtain ⟨rfl, rfl⟩ := h)
   go_enter Try.func32, Try.ntmps32
   go_wp2_with ((with_reducible refine gate_dst (N := 3) rfl ?_); refine box_event ?hg (N := 3) ?hd (cs := #[.int .i64 a0_0, .int .i64 a0_1, .int .i64 a0_2, .slice A0_3 l0_3.length c0_3]) (t := 26) ?hr ?_; (case hd => rfl); (case hg => rfl); (case hr => first | (go_simp; done) | (go_simp; rfl)); intro gn hg w1 hbox hb; have HB1 := Aside0.mk (below_step HB.out hb); have BN := Aside0.mk hbox; have GN : Aside0 (w.heap.size ≤ gn) := ⟨by rw [hg]; exact Nat.le_refl _⟩; clear HB hb hbox hg; have hcz0 : w1.cell? ⟨gn, 0, none⟩ = some (.int .i64 a0_0) := (blk_cell BN.out 0).trans rfl; have hcz1 : w1.cell? ⟨gn, 1, none⟩ = some (.int .i64 a0_1) := (blk_cell BN.out 1).trans rfl; have hcz2 : w1.cell? ⟨gn, 2, none⟩ = some (.int .i64 a0_2) := (blk_cell BN.out 2).trans rfl; have hcz3 : w1.cell? ⟨gn, 3, none⟩ = some (.slice A0_3 l0_3.length c0_3) := (blk_cell BN.out 3).trans rfl)
   refine wp_scope_straight ?_
   go_wp2_with (first
    | (go_at_call 29; refine (residual_Room.calls k a0_0 a0_1 a0_2 A0_3 c0_3 l0_3 A1 c1 l1 room 0 _ ?s1 HC.out ?s2 HC1.out HRM.out).mono ?_; (case s1 => exact Kd.C_below HR.out HB1.out); (case s2 => exact Kd.C_below HF.out HB1.out); rintro e w2 ⟨v8, rfl, ho, hb⟩; have HB2 := Aside0.mk (below_step HB1.out hb); clear ho hb HB1 BN hcz0 hcz1 hcz2 hcz3))
   rw [Exit.noGoto_ret]
   go_ret2
   exact ⟨_, rfl, Kd.R_nil _ _ _ _ _, HB2.out⟩
  rw [if_neg e1] at h
  by_cases e2 : rcFit a0_0 a0_1 l0_3 room = true
  ·rw [if_pos e2] at h
   (obtain ⟨ro, hwalk, h⟩ := Option.bind_eq_some_iff.mp h);(simp only [Option.some.injEq, Prod.mk.injEq] at h);(obtain ⟨rfl, rfl⟩ := h);(have E2 := Aside0.mk e2);(simp only [rcFit, Bool.and_eq_true, decide_eq_true_eq] at e2);(obtain ⟨⟨g0, g1, g2, g3, g4, g5⟩, -⟩ := e2);(obtain ⟨m, hm⟩ : ∃ m : Nat, a0_0 + 1 = (m : Int) := ⟨(a0_0 + 1).toNat, by omega⟩);(have hm1 : (a0_0 + 1).toNat = m := by omega);(rw [hm1] at hwalk);(obtain ⟨s, rfl⟩ : ∃ s : Nat, a0_1 = (s : Int) := ⟨a0_1.toNat, by omega⟩);(rw [Int.toNat_natCast] at hwalk);(have HT := Aside0.mk hwalk);(have HW : Aside0 (wrap64 (a0_0 + 1) = (m : Int)) := ⟨by unfold wrap64; omega⟩);(have G := Aside0.mk (show 2 ≤ m ∧ m ≤ 1000001 ∧ a0_0 < (m : Int) ∧ s < m ∧ l0_3.length ≤ 2000 ∧ room.length = 2 * l0_3.length by omega));(have hM := HW.out);(have e1b : decide (a2 < 1) = false := by simpa using e1);(have hM0 : (0 : Int) ≤ (m : Int) := by omega);(clear hwalk hm1 g0 g1 g2 g3 g4 g5 hm)
   go_enter Try.func32, Try.ntmps32
   go_wp2_with ((with_reducible refine gate_dst (N := 3) rfl ?_); refine box_event ?hg (N := 3) ?hd (cs := #[.int .i64 a0_0, .int .i64 (s : Int), .int .i64 a0_2, .slice A0_3 l0_3.length c0_3]) (t := 26) ?hr ?_; (case hd => rfl); (case hg => rfl); (case hr => first | (go_simp; done) | (go_simp; rfl)); intro gn hg w1 hbox hb; have HB1 := Aside0.mk (below_step HB.out hb); have BN := Aside0.mk hbox; have GN : Aside0 (w.heap.size ≤ gn) := ⟨by rw [hg]; exact Nat.le_refl _⟩; clear HB hb hbox hg; have hcz0 : w1.cell? ⟨gn, 0, none⟩ = some (.int .i64 a0_0) := (blk_cell BN.out 0).trans rfl; have hcz1 : w1.cell? ⟨gn, 1, none⟩ = some (.int .i64 (s : Int)) := (blk_cell BN.out 1).trans rfl; have hcz2 : w1.cell? ⟨gn, 2, none⟩ = some (.int .i64 a0_2) := (blk_cell BN.out 2).trans rfl; have hcz3 : w1.cell? ⟨gn, 3, none⟩ = some (.slice A0_3 l0_3.length c0_3) := (blk_cell BN.out 3).trans rfl)
   refine wp_scope_straight ?_
   go_wp2_with (first
    | (go_at_call 29; refine (residual_Room.calls k a0_0 (s : Int) a0_2 A0_3 c0_3 l0_3 A1 c1 l1 room 0 _ ?s1 HC.out ?s2 HC1.out HRM.out).mono ?_; (case s1 => exact Kd.C_below HR.out HB1.out); (case s2 => exact Kd.C_below HF.out HB1.out); rintro e w2 ⟨v8, rfl, ho, hb⟩; obtain ⟨A8, c8, eo⟩ := Kd.R_slice ho; subst eo; have HB2 := Aside0.mk (below_step HB1.out hb); have BN2 := Aside0.mk (blk_below BN.out hb); have HO := Aside0.mk (Kd.R_lower ho (below_size HB1.out)); clear ho hb HB1 BN hcz0 hcz1 hcz2 hcz3; have hcz0 : w2.cell? ⟨gn, 0, none⟩ = some (.int .i64 a0_0) := (blk_cell BN2.out 0).trans rfl; have hcz1 : w2.cell? ⟨gn, 1, none⟩ = some (.int .i64 (s : Int)) := (blk_cell BN2.out 1).trans rfl; have hcz2 : w2.cell? ⟨gn, 2, none⟩ = some (.int .i64 a0_2) := (blk_cell BN2.out 2).trans rfl; have hcz3 : w2.cell? ⟨gn, 3, none⟩ = some (.slice A0_3 l0_3.length c0_3) := (blk_cell BN2.out 3).trans rfl)
    | ((with_reducible refine gate_dst (N := 37) rfl ?_); refine make_event ?mg (N := 37) ?md (t := 80) (e := 22) (x := .tmp 36) (y := .tmp 36) ?mo (m : Int) ?mx ?my Try.underlying80 (.slice none 0 0) 24 info22 rfl (by decide) (by omega) ?ml ?_; (case md => rfl); (case mg => rfl); (case mo => rfl); (case mx => first | (go_simp; done) | (go_simp; rfl)); (case my => first | (go_simp; done) | (go_simp; rfl)); (case ml => have := G.out; omega); intro gt hgt w3 hw3; rw [Int.toNat_natCast] at hw3 ⊢; have hp := Pk.start (m := m) (tl := 22) (ti := 3) (room := room) HB2.out BN2.out GN.out HO.out (by decide); rw [← hw3, ← hgt] at hp; have HPH := Aside0.mk hp; clear hp hw3 hgt hcz0 hcz1 hcz2 hcz3 HB2 BN2 HO))
   go_loopg [40] (room.length + 1) (fun kq v40 wr => ∃ (j : Nat) (own : Nat → Nat), v40 = .int .i64 j ∧ Aside0 (j + kq = room.length + 1 ∧ 0 < kq) ∧ Aside0 (Pk 26 2 3 22 own w wr gn #[.int .i64 a0_0, .int .i64 (s : Int), .int .i64 a0_2, .slice A0_3 l0_3.length c0_3] (.slice A8 room.length c8) room gt (trAll (rcFrom l0_3) m j)))
   case atStart => exact ⟨0, _, rfl, ⟨by omega⟩, HPH⟩
   case round =>
    (clear HPH);(obtain ⟨j, own, rfl, HK, HP⟩ := hrel)
    by_cases hlt : j < room.length
    ·(have hlt2 : (j : Int) < (room.length : Int) := by omega);(have hj0 : (0 : Int) ≤ (j : Int) := by omega);(have hin := rcTo_in E2.out (r := (j : Int)) (by omega) (by omega));(have hG := G.out);(have HE := Aside0.mk (rcEnds (n := a0_0) (s := (s : Int)) (t := a0_2) (r := (j : Int)) (l := l0_3) (by omega) (by omega) (by omega)));(obtain ⟨v, hv⟩ : ∃ v : Nat, rcFrom l0_3 (j : Int) = (v : Int) := ⟨(rcFrom l0_3 (j : Int)).toNat, by omega⟩);(have hvm : v < m := by omega);(have hvm2 : (v : Int) < (m : Int) := by omega);(have hv0 : (0 : Int) ≤ (v : Int) := by omega);(have hel := List.getElem?_eq_getElem (l := trAll (rcFrom l0_3) m j) (i := v) (by rw [trAll_length]; exact hvm));(obtain ⟨x, hx⟩ : ∃ x, (trAll (rcFrom l0_3) m j)[v]'(by rw [trAll_length]; exact hvm) = x := ⟨_, rfl⟩);(rw [hx] at hel);(have HX := Aside0.mk hel);(have HXL := Aside0.mk (trAll_mem _ m j v x hel).1)
     have hadd : trAll (rcFrom l0_3) m (j + 1) = (trAll (rcFrom l0_3) m j).set v (x ++ [(j : Int)]) := by
      rw [trAll, trAdd, hv, Int.toNat_natCast, List.getD_eq_getElem?_getD, hel]; rfl
     (have HADD := Aside0.mk hadd);(rw [hv] at HE);(obtain ⟨z, hz⟩ : ∃ z, rcTo l0_3 (j : Int) = z := ⟨_, rfl⟩);(rw [hz] at HE);(have hcz0 : wr.cell? ⟨gn, 0, none⟩ = some (.int .i64 a0_0) := (blk_cell HP.out.net.2.2 0).trans rfl);(have hcz1 : wr.cell? ⟨gn, 1, none⟩ = some (.int .i64 (s : Int)) := (blk_cell HP.out.net.2.2 1).trans rfl);(have hcz2 : wr.cell? ⟨gn, 2, none⟩ = some (.int .i64 a0_2) := (blk_cell HP.out.net.2.2 2).trans rfl);(have hcz3 : wr.cell? ⟨gn, 3, none⟩ = some (.slice A0_3 l0_3.length c0_3) := (blk_cell HP.out.net.2.2 3).trans rfl);(clear hin hG hel hx hadd hv hz hvm)
     go_wp2_with (first
      | (go_at_call 49; refine (residual_Ends.calls 1 a0_0 (s : Int) a0_2 A0_3 c0_3 l0_3 (j : Int) (v : Int) z _ ?s1 HC.out HE.out).mono ?_; (case s1 => exact Kd.C_below HR.out HP.out.below); rintro e w5 ⟨rfl, hb⟩; have HP5 := Aside0.mk (HP.out.move hb); clear hb HP hcz0 hcz1 hcz2 hcz3; obtain ⟨Ax, cx, hxc, hxf, hxr⟩ := HP5.out.tr.at HX.out; have HXR := Aside0.mk hxr; have HXC := Aside0.mk hxc; clear hxr)
      | ((with_reducible refine gate_builtin (b := .append) (xs := #[.tmp 54, .tmp 56]) rfl ?_); at_builtin; refine Kd.R_append (Kd.int .i64) (w0 := w) w.heap.size rfl (.tmp 54) (.tmp 56) 22 3 (.int .i64 0) 8 rfl Try.underlying22 info3 rfl (by decide) (by omega) (.slice Ax x.length cx) x (j : Int) [.int .i64 j] (fun k_ => own k_ = 10 + v ∨ w5.heap.size ≤ k_) (fun _ => False) rfl (by first | (go_simp; done) | (go_simp; rfl)) ?aP (fun _ hk => hk.elim) ?aF ?aO ?aB ?aS ?aL ?_; (case aP => exact rfl); (case aF => exact (fun _ h_ => .inr h_)); (case aO => exact HXR.out.open_); (case aB => exact HP5.out.below); (case aS => exact below_size HP5.out.below); (case aL => have h1_ := HXL.out; have h2_ := G.out; omega); intro u1 w6 ho hb6 hg hat; obtain ⟨Au, cu, eu⟩ := Kd.R_slice ho; subst eu; have hh := HP5.out.tr.hold HXC.out (fun k_ e_ => HXR.out.1 k_ e_) hg; obtain ⟨hc6, hf6⟩ := hh; have HO6 := Aside0.mk ho; have HB6 := Aside0.mk hb6; have HG6 := Aside0.mk hg; clear ho hb6 hg hat hxc hxf)
      | ((with_reducible refine gate_store (t := 22) (p := 58) rfl ?_); refine store_event (t := 22) (p := 58) (v := ?va) (w1 := (w6.setCell ⟨gt, v, none⟩ (.slice Au (x ++ [(j : Int)]).length cu))) ?hg ?ho ?hn ?hr ?_; (case ho => rfl); (case hg => rfl); (case hn => rfl); (case hr => first | (go_simp; done) | (go_simp; rfl)); intro w7 hw; have hp7 := Pk.push HP5.out HX.out HXR.out HG6.out HO6.out HB6.out; rw [← hw, ← HADD.out] at hp7; have HP7 := Aside0.mk hp7; clear hp7 hw hc6 hf6 HO6 HB6 HG6 HP5 HXR HXC))
     obtain ⟨hk1, hk2⟩ := HK.out
     go_roundg (gk - 1)
     case measure => omega
     case rel => exact ⟨j + 1, _, rc_succ (by have h_ := G.out; omega), ⟨by omega⟩, HP7⟩
    ·(have hge : ¬ ((j : Int) < (room.length : Int)) := by omega);(have hjr : j = room.length := by have := HK.out; omega);(subst hjr);(obtain ⟨ts, hts⟩ : ∃ ts, trAll (rcFrom l0_3) m room.length = ts := ⟨_, rfl⟩);(have htl : ts.length = m := by rw [← hts]; exact trAll_length _ _ _)
     have htm : ∀ (v : Nat) (x : List Int), ts[v]? = some x → x.length ≤ 4000 ∧ ∀ r ∈ x, 0 ≤ r ∧ r < (room.length : Int) := fun v x h_ => by
      (rw [← hts] at h_);(have h1 := trAll_mem _ _ _ _ _ h_);(have h2 := G.out);(exact ⟨by omega, h1.2⟩)
     (have ht := HT.out);(have hp := HP.out);(rw [hts] at ht hp);(have HT2 := Aside0.mk ht);(have HP2 := Aside0.mk hp);(have HTL := Aside0.mk htl);(have HTM := Aside0.mk htm);(clear ht hp htl htm hts HT HP HK);(have hsm : (s : Int) < (m : Int) := by have := G.out; omega);(have hs0 : (0 : Int) ≤ (s : Int) := by omega);(have hcz0 : wr.cell? ⟨gn, 0, none⟩ = some (.int .i64 a0_0) := (blk_cell HP2.out.net.2.2 0).trans rfl)
     go_wp2_with (first
      | ((with_reducible refine gate_dst (N := 63) rfl ?_); refine Kd.R_make Kd.bool (w0 := w) w.heap.size 4 ?ng (N := 63) ?nd 68 (.tmp 62) (.tmp 62) ?no (m : Int) ?nx ?ny Try.underlying68 (.bool false) 1 info4 rfl (by decide) (by decide) false (ok := fun k_ => wr.heap.size ≤ k_) (okp := fun _ => False) rfl (fun _ h_ => h_.elim) (Nat.le_refl _) (by omega) ?nl HP2.out.below (below_size HP2.out.below) ?_; (case nd => rfl); (case ng => rfl); (case no => rfl); (case nx => first | (go_simp; done) | (go_simp; rfl)); (case ny => first | (go_simp; done) | (go_simp; rfl)); (case nl => have := G.out; omega); intro v14 w4 ho4 hb4 hg4 hn4; have hp4 : 0 < (List.replicate (m : Int).toNat false).length := (by have := G.out; simp; omega); obtain ⟨gm, cm, hv, hgo, hgl, cl, hcl⟩ := Kd.R_form ho4 hp4; rw [List.length_replicate, Int.toNat_natCast] at hv; subst hv; rw [Int.toNat_natCast] at ho4; have HM4 := Aside0.mk ho4; have HB4 := Aside0.mk hb4; have HG4 := Aside0.mk hg4; obtain ⟨hxs, hxf⟩ := Kd.R_celln false HM4.out (s : Int) hs0 hsm; rw [Int.toNat_natCast] at hxs hxf; have hcz1 : w4.cell? ⟨gn, 1, none⟩ = some (.int .i64 (s : Int)) := (blk_cell (blk_grown HP2.out.net.2.2 HG4.out (by simp)) 1).trans rfl; have GMB : Aside0 (w.heap.size ≤ gm ∧ gm ≠ gn) := ⟨hgo, fun e_ => by have h1_ := HM4.out.1 gm rfl; have h2_ := blk_lt HP2.out.net.2.2; omega⟩; clear ho4 hb4 hg4 hn4 hp4 hgo hgl cl hcl hcz0)
      | ((with_reducible refine gate_store (t := 4) (p := 67) rfl ?_); refine store_event (t := 4) (p := 67) (v := ?vb) (w1 := (w4.setCell ⟨gm, s, none⟩ (.bool true))) ?hg ?ho ?hn ?hr ?_; (case ho => rfl); (case hg => rfl); (case hn => rfl); (case hr => first | (go_simp; done) | (go_simp; rfl)); intro w5 hw; have HW5 := Aside0.mk hw; have HB5 : Aside0 (Below w.heap.size w w5) := ⟨by rw [hw]; exact below_set HB4.out GMB.out.1⟩; have hcz1 : w5.cell? ⟨gn, 1, none⟩ = some (.int .i64 (s : Int)) := (by rw [hw]; exact (blk_cell (blk_far (blk_grown HP2.out.net.2.2 HG4.out (by simp)) (fun e_ => GMB.out.2 e_.symm) _) 1).trans rfl); clear hw hxs hxf)
      | ((with_reducible refine gate_dst (N := 70) rfl ?_); refine Kd.R_lit (Kd.int .i64) (w0 := w) w.heap.size 3 ?lg (N := 70) ?ld (xs := ([(s : Int)] : List Int)) (inner := [.int .i64 (s : Int)]) (ok := fun k_ => w5.heap.size ≤ k_) (okp := fun _ => False) ?lr ?lp (fun _ hk => hk.elim) (Nat.le_refl _) HB5.out (below_size HB5.out) (by simp) ?_; (case ld => rfl); (case lg => rfl); (case lr => first | (go_simp; done) | (go_simp; rfl)); (case lp => exact (Reps.snoc (p := (s : Int)) (c := [.int .i64 (s : Int)]) (Reps.none _ _) rfl rfl)); intro v15 w6 ho6 hb6 hg6 hn6; have hsz : w5.heap.size = w4.heap.size := (by rw [HW5.out]; simp); rw [hsz] at ho6; rw [HW5.out] at hg6; have HRC := Aside0.mk (Rc.start HP2.out HG4.out HM4.out s true hb6 hg6 ho6); clear ho6 hb6 hg6 hn6 hsz HP2 HG4 HM4 HW5 HB5 HB4 hcz1))
     refine wp_label ?_
     go_wp2_with fail
     go_loopg [15] k (fun kq v15 wr => ∃ (own : Nat → Nat) (ts : List (List Int)) (met : List Bool) (wait : List Int), Aside0 (Rc 26 2 3 22 4 own w wr gn #[.int .i64 a0_0, .int .i64 (s : Int), .int .i64 a0_2, .slice A0_3 l0_3.length c0_3] (.slice A8 room.length c8) room gt ts gm m cm met v15 wait) ∧ Aside0 (rcWalk l0_3 room a2 kq ts met wait = some ro) ∧ Aside0 (met.length = m ∧ ts.length = m) ∧ Aside0 (∀ v ∈ wait, 0 ≤ v ∧ v < (m : Int)) ∧ Aside0 (∀ (v : Nat) (x : List Int), ts[v]? = some x → x.length ≤ 4000 ∧ ∀ r ∈ x, 0 ≤ r ∧ r < (room.length : Int)))
     case atStart => exact ⟨_, ts, _, _, HRC, HT2, ⟨by rw [List.length_set, List.length_replicate], HTL.out⟩, ⟨fun v hv => by obtain rfl := List.mem_singleton.1 hv; exact ⟨hs0, hsm⟩⟩, HTM⟩
     case round =>
      (clear HRC HT2 HTL HTM);(obtain ⟨own, ts, met, wait, HS, HT, HO, HN, HTM⟩ := hrel)
      obtain ⟨f, hf⟩ : ∃ f, gk = f + 1 := by
       cases gk with
       | zero => have := HT.out; simp [rcWalk] at this
       | succ f => exact ⟨f, rfl⟩
      (have ht := HT.out);(rw [hf, rcWalk] at ht);(have HF := Aside0.mk hf);(clear hf HT);(obtain ⟨Aw, cw, ew⟩ := Kd.R_slice HS.out.wait);(have EW := Aside0.mk ew);(subst ew)
      by_cases hz : wait.length = 0
      ·(rw [if_pos hz] at ht);(obtain rfl := Option.some.inj ht);(have hz1 : decide (0 < wait.length) = false := by simp; exact List.length_eq_zero_iff.1 hz);(clear ht hz)
       go_wp2_with fail
       go_ret2
       exact ⟨_, rfl, Kd.R_mono HS.out.met (fun _ _ => trivial), HS.out.below⟩
      ·rw [if_neg hz] at ht
       by_cases hsz : wait.length ≤ 1000000
       ·(rw [if_pos hsz] at ht);(obtain ⟨p, hp⟩ : ∃ p : Nat, wait.length = p + 1 := ⟨wait.length - 1, by omega⟩);(have hpw : p < wait.length := by omega)
        have erd : rd wait ((wait.length : Int) - 1) = wait[p] := by
         (have e_ : (wait.length : Int) - 1 = (p : Int) := by omega);(rw [e_]; simp [rd, hpw])
        (have hvn := HN.out wait[p] (List.getElem_mem hpw));(obtain ⟨g9, hg9, hrd⟩ := HS.out.wait.read hpw);(subst hg9);(obtain ⟨v, hv⟩ : ∃ v : Nat, wait[p] = (v : Int) := ⟨(wait[p]).toNat, by omega⟩);(rw [erd] at ht);(rw [hv] at ht hvn hrd);(have hvm : v < m := by omega);(have hvm2 : (v : Int) < (m : Int) := by omega);(have hv0 : (0 : Int) ≤ (v : Int) := by omega);(have hel := List.getElem?_eq_getElem (l := ts) (i := v) (by rw [HO.out.2]; exact hvm));(obtain ⟨x, hx⟩ : ∃ x, ts[v]'(by rw [HO.out.2]; exact hvm) = x := ⟨_, rfl⟩);(rw [hx] at hel);(rw [Int.toNat_natCast, List.getD_eq_getElem?_getD, hel] at ht);(have HX := Aside0.mk hel);(have HXM := Aside0.mk (HTM.out v x hel));(have ht2 : (match rcFind l0_3 room a2 met x with | some (q, rs) => rcWalk l0_3 room a2 f (ts.set v rs) (met.set q.toNat true) (wait ++ [q]) | none => rcWalk l0_3 room a2 f ts met (wait.take (wait.length - 1))) = some ro := ht);(generalize hF : rcFind l0_3 room a2 met x = F at ht2);(have HT := Aside0.mk ht2);(have HFF := Aside0.mk hF);(have hwl : wrap64 ((wait.length : Int) - 1) = (p : Int) := by unfold wrap64; omega);(have hpl : (p : Int) < (wait.length : Int) := by omega);(have hp0 : (0 : Int) ≤ (p : Int) := by omega);(have HPW := Aside0.mk hp);(have HSZ := Aside0.mk hsz);(have hz1 : decide (0 < wait.length) = true := by simp; omega);(have hz2 : 0 < wait.length := by omega);(obtain ⟨Ax, cx, hxc, _, hxl, hxv⟩ := HS.out.tv.at hel);(have HXC := Aside0.mk hxc);(have HXL := Aside0.mk hxl);(have HXV := Aside0.mk hxv);(clear ht ht2 hF erd hv hvn hel hx hz hsz hp hpw hvm hxl hxv)
        go_wp2_with fail
        go_loopg [15, 85] (x.length + 1) (fun kq v15 v85 wr => ∃ (i : Nat), v15 = .slice (some ⟨g9, 0, none⟩) wait.length cw ∧ v85 = .int .i64 i ∧ Aside0 (i + kq = x.length + 1 ∧ 0 < kq) ∧ Aside0 (Rc 26 2 3 22 4 own w wr gn #[.int .i64 a0_0, .int .i64 (s : Int), .int .i64 a0_2, .slice A0_3 l0_3.length c0_3] (.slice A8 room.length c8) room gt ts gm m cm met (.slice (some ⟨g9, 0, none⟩) wait.length cw) wait) ∧ Aside0 (Vw own (10 + v) wr Ax x) ∧ Aside0 (wr.cell? ⟨gt, v, none⟩ = some (.slice Ax x.length cx)) ∧ Aside0 (rcFind l0_3 room a2 met (x.drop i) = F))
        case atStart => exact ⟨0, rfl, rfl, ⟨by omega⟩, HS, HXV, HXC, HFF⟩
        case round =>
         (clear HS HXV HXC HFF hrd hxc);(obtain ⟨i, rfl, rfl, HK, HS, HV, HCV, HFF⟩ := hrel)
         by_cases hit : i < x.length
         ·(have hit2 : (i : Int) < (x.length : Int) := by omega);(have hi0 : (0 : Int) ≤ (i : Int) := by omega);(have hrn := HXM.out.2 x[i] (List.getElem_mem hit));(obtain ⟨g7, hg7, hrd⟩ := HV.out.read hit);(subst hg7);(have hdr : x.drop i = x[i] :: x.drop (i + 1) := List.drop_eq_getElem_cons hit);(obtain ⟨r, hr⟩ : ∃ r : Nat, x[i] = (r : Int) := ⟨(x[i]).toNat, by omega⟩);(rw [hr] at hrn hrd hdr);(have hG := G.out);(have hrm : r < room.length := by omega);(have hrm2 : (r : Int) < (room.length : Int) := by omega);(have hr0 : (0 : Int) ≤ (r : Int) := by omega);(have hin := rcTo_in E2.out (r := (r : Int)) (by omega) (by omega));(have HE := Aside0.mk (rcEnds (n := a0_0) (s := (s : Int)) (t := a0_2) (r := (r : Int)) (l := l0_3) (by omega) (by omega) (by omega)));(obtain ⟨t, ht⟩ : ∃ t : Nat, rcTo l0_3 (r : Int) = (t : Int) := ⟨(rcTo l0_3 (r : Int)).toNat, by omega⟩);(obtain ⟨z, hz⟩ : ∃ z, rcFrom l0_3 (r : Int) = z := ⟨_, rfl⟩);(rw [ht, hz] at HE);(have htm : t < m := by omega);(have htm2 : (t : Int) < (m : Int) := by omega);(have ht0 : (0 : Int) ≤ (t : Int) := by omega);(obtain ⟨g8, hg8, hrr⟩ := HS.out.room.read hrm);(subst hg8);(obtain ⟨hou, hof⟩ := Kd.R_celln false HS.out.met (t : Int) ht0 htm2);(rw [Int.toNat_natCast] at hou hof);(have hff := HFF.out);(have er : rd room (r : Int) = room[r] := by simp [rd, hrm]);(rw [hdr, rcFind, ht, er] at hff);(obtain ⟨y, hy⟩ : ∃ y, room[r] = y := ⟨_, rfl⟩);(obtain ⟨q, hq⟩ : ∃ q, rdOf false met (t : Int) = q := ⟨_, rfl⟩);(rw [hy, hq] at hff);(rw [hy] at hrr);(rw [hq] at hou);(have HQ := Aside0.mk hq);(have hcz0 : wr.cell? ⟨gn, 0, none⟩ = some (.int .i64 a0_0) := (blk_cell HS.out.net.2.2 0).trans rfl);(have hcz1 : wr.cell? ⟨gn, 1, none⟩ = some (.int .i64 (s : Int)) := (blk_cell HS.out.net.2.2 1).trans rfl);(have hcz2 : wr.cell? ⟨gn, 2, none⟩ = some (.int .i64 a0_2) := (blk_cell HS.out.net.2.2 2).trans rfl);(have hcz3 : wr.cell? ⟨gn, 3, none⟩ = some (.slice A0_3 l0_3.length c0_3) := (blk_cell HS.out.net.2.2 3).trans rfl);(clear hrn hdr hG hin hz ht er hy hq htm hrm hr HFF)
          by_cases q1 : a2 ≤ y
          ·by_cases q2 : q = false
           ·(subst q2);(rw [if_pos ⟨q1, rfl⟩] at hff);(subst hff);(have HT2 : Aside0 (rcWalk l0_3 room a2 f (ts.set v (x.drop (i + 1))) (met.set t true) (wait ++ [(t : Int)]) = some ro) := ⟨by have h_ := HT.out; simpa using h_⟩);(clear HT)
            go_wp2_with (first
             | (go_at_call 49; refine (residual_Ends.calls 1 a0_0 (s : Int) a0_2 A0_3 c0_3 l0_3 (r : Int) z (t : Int) _ ?s1 HC.out HE.out).mono ?_; (case s1 => exact Kd.C_below HR.out HS.out.below); rintro e w5 ⟨rfl, hb⟩; have HS5 := Aside0.mk (HS.out.move hb); have HV5 := Aside0.mk (HV.out.stay (T := fun _ => False) (Stay.below hb) id); have HCV5 := Aside0.mk (pw_cell_below hb HCV.out); replace hrr := pw_cell_below hb hrr; clear hou hof hb HS HV HCV hcz0 hcz1 hcz2 hcz3 hrd; obtain ⟨hou, hof⟩ := Kd.R_celln false HS5.out.met (t : Int) ht0 htm2; rw [Int.toNat_natCast] at hou hof; rw [HQ.out] at hou)
             | ((with_reducible refine gate_store (t := 4) (p := 111) rfl ?_); refine store_event (t := 4) (p := 111) (v := ?vd) (w1 := (w5.setCell ⟨gm, t, none⟩ (.bool true))) ?hg ?ho ?hn ?hr ?_; (case ho => rfl); (case hg => rfl); (case hn => rfl); (case hr => first | (go_simp; done) | (go_simp; rfl)); intro w6 hw; have hp := HS5.out.put (t : Int) true; rw [Int.toNat_natCast, ← hw] at hp; have HS6 := Aside0.mk hp; have hst : Stay own own (fun t_ => t_ = 1) w5 (w5.setCell ⟨gm, t, none⟩ (.bool true)) := Stay.set (HS5.out.met.1 gm rfl); have hp2 := HV5.out.stay hst (by omega); rw [← hw] at hp2 hst; have HV6 := Aside0.mk hp2; have hh := HS5.out.tv.hold (hst.heap gt (blk_lt HS5.out.tv.2.2.choose_spec.1) (by rw [HS5.out.tv.1]; decide)) HCV5.out; obtain ⟨hcv, hfv⟩ := hh; clear hp hp2 hw hst HS5 HV5 HCV5 hou hof hrr))
            (have hiw : IntKind.i64.wrap ((i : Int) + 1) = (i : Int) + 1 := by have h_ := HXM.out.1; rw [IntKind.wrap_i64]; omega);(have htn : ((i : Int) + 1).toNat = i + 1 := by omega);(have hlo : (i : Int) + 1 ≤ (x.length : Int) := by omega);(have hl0 : (0 : Int) ≤ (i : Int) + 1 := by omega);(have HCVV := Aside0.mk hcv);(have hca : (w6.alloc (.cells #[.int .i64 (t : Int)] 3)).cell? ⟨gt, v, none⟩ = some (.slice (some g7) x.length cx) := pw_cell_below (below_alloc (Below.refl _ _) _) hcv)
            go_region_law (first | (refine Kd.R_append_step (Kd.int .i64) (w0 := w) (W := w6.drew) w.heap.size (by rfl) (.tmp 114) (.tmp 116) 22 3 (.int .i64 0) 8 rfl Try.underlying22 info3 rfl (by decide) (by omega) (.slice (some ⟨g9, 0, none⟩) wait.length cw) wait (t : Int) [.int .i64 (t : Int)] (fun k_ => own k_ = 2 ∨ w6.heap.size ≤ k_) (fun _ => False) rfl rfl ?aP (fun _ hk => hk.elim) ?aF ?aO ?aB ?aS ?aL ?_; (case aP => exact rfl); (case aF => exact (fun _ h_ => .inr h_)); (case aO => exact Kd.R_drew HS6.out.wait.open_); (case aB => exact below_drew HS6.out.below); (case aS => exact below_size (below_drew HS6.out.below)); (case aL => have h_ := HSZ.out; omega); intro u7 w7 ho hb7 hg hat; obtain ⟨A7, c7, eu⟩ := Kd.R_slice ho; subst eu; have hg6 : w6.grownBy w7 (Value.slice (some ⟨g9, 0, none⟩) wait.length cw).ownBlock := ⟨hg.os, hg.tape, hg.output, hg.size, hg.block⟩; have hh := HS6.out.tv.hold (hg6.block gt (blk_lt HS6.out.tv.2.2.choose_spec.1) (fun e_ => by have h1_ := HS6.out.wait.1 gt e_.symm; have h2_ := HS6.out.tv.1; omega)) HCVV.out; obtain ⟨hcv7, hfv7⟩ := hh; have HO7 := Aside0.mk ho; have HB7 := Aside0.mk hb7; have HG7 := Aside0.mk hg6; clear ho hb7 hg hg6 hat))
            all_goals (
             (have hpush := Rc.push HS6.out HG7.out HO7.out HB7.out HX.out (k := i + 1) hit HXL.out HV6.out);(have emap : Option.map (fun x_ => Addr.add x_ (i + 1)) (some g7) = some ⟨g7.block, g7.off + (i + 1), none⟩ := by simp [Addr.add]);(rw [List.length_append, List.length_singleton, emap] at hpush);(generalize hU : (Value.slice (if cx = i + 1 then some g7 else some ⟨g7.block, g7.off + (i + 1), none⟩) (x.length - (i + 1)) (cx - (i + 1))) = U at hpush ⊢);(have HPU := Aside0.mk hpush);(clear hU);(clear hpush hcv hfv hca hcv7 hfv7 emap)
             go_wp2_with fail
             go_roundg f
             case measure => have := HF.out; omega
             case rel => exact ⟨_, ts.set v (x.drop (i + 1)), met.set t true, wait ++ [(t : Int)], HPU, HT2, ⟨by rw [List.length_set, List.length_set]; exact HO.out⟩, ⟨fun v_ hv_ => (List.mem_append.1 hv_).elim (HN.out v_) (fun h_ => by obtain rfl := List.mem_singleton.1 h_; exact ⟨ht0, htm2⟩)⟩, ⟨fun v_ x_ h_ => by
              by_cases c_ : v_ = v
              ·(subst c_);(rw [List.getElem?_set_self (by rw [HO.out.2]; omega)] at h_);(obtain rfl := Option.some.inj h_);(exact ⟨by rw [List.length_drop]; have h1_ := HXM.out.1; omega, fun r_ hr_ => HXM.out.2 r_ (List.mem_of_mem_drop hr_)⟩)
              ·rw [List.getElem?_set_ne (fun e_ => c_ e_.symm)] at h_
               exact HTM.out v_ x_ h_⟩⟩)
           ·(rw [if_neg (fun h_ => q2 h_.2)] at hff);(have HFF := Aside0.mk hff)
            have q2b : q = true := by
             cases q with
             | true => rfl
             | false => exact absurd rfl q2
            (subst q2b);(clear hff q2)
            go_wp2_with (go_at_call 49; refine (residual_Ends.calls 1 a0_0 (s : Int) a0_2 A0_3 c0_3 l0_3 (r : Int) z (t : Int) _ ?s1 HC.out HE.out).mono ?_; (case s1 => exact Kd.C_below HR.out HS.out.below); rintro e w5 ⟨rfl, hb⟩; have HS5 := Aside0.mk (HS.out.move hb); have HV5 := Aside0.mk (HV.out.stay (T := fun _ => False) (Stay.below hb) id); have HCV5 := Aside0.mk (pw_cell_below hb HCV.out); replace hrr := pw_cell_below hb hrr; clear hou hof hb HS HV HCV hcz0 hcz1 hcz2 hcz3 hrd; obtain ⟨hou, hof⟩ := Kd.R_celln false HS5.out.met (t : Int) ht0 htm2; rw [Int.toNat_natCast] at hou hof; rw [HQ.out] at hou)
            obtain ⟨hk1, hk2⟩ := HK.out
            go_roundg (gk - 1)
            case measure => omega
            case rel => exact ⟨i + 1, rfl, rc_succ (by have h_ := HXM.out.1; omega), ⟨by omega⟩, HS5, HV5, HCV5, HFF⟩
          ·(rw [if_neg (fun h_ => q1 h_.1)] at hff);(have HFF := Aside0.mk hff);(have q1b : decide (a2 ≤ y) = false := by simpa using q1);(clear hff)
           go_wp2_with (go_at_call 49; refine (residual_Ends.calls 1 a0_0 (s : Int) a0_2 A0_3 c0_3 l0_3 (r : Int) z (t : Int) _ ?s1 HC.out HE.out).mono ?_; (case s1 => exact Kd.C_below HR.out HS.out.below); rintro e w5 ⟨rfl, hb⟩; have HS5 := Aside0.mk (HS.out.move hb); have HV5 := Aside0.mk (HV.out.stay (T := fun _ => False) (Stay.below hb) id); have HCV5 := Aside0.mk (pw_cell_below hb HCV.out); replace hrr := pw_cell_below hb hrr; clear hou hof hb HS HV HCV hcz0 hcz1 hcz2 hcz3 hrd; obtain ⟨hou, hof⟩ := Kd.R_celln false HS5.out.met (t : Int) ht0 htm2; rw [Int.toNat_natCast] at hou hof; rw [HQ.out] at hou)
           obtain ⟨hk1, hk2⟩ := HK.out
           go_roundg (gk - 1)
           case measure => omega
           case rel => exact ⟨i + 1, rfl, rc_succ (by have h_ := HXM.out.1; omega), ⟨by omega⟩, HS5, HV5, HCV5, HFF⟩
         ·(have hge : ¬ ((i : Int) < (x.length : Int)) := by omega);(have hff := HFF.out);(rw [List.drop_of_length_le (by omega)] at hff);(have hff2 : F = none := hff.symm);(subst hff2);(have HT2 : Aside0 (rcWalk l0_3 room a2 f ts met (wait.take (wait.length - 1)) = some ro) := HT);(have hwl2 : wrap64 ((wait.length : Int) - 1) = (p : Int) := hwl);(clear hff HFF HT);(have htk := HS.out.take (k := p) (by have := HPW.out; omega));(have etk : wait.take (wait.length - 1) = wait.take p := by rw [HPW.out]; rfl);(rw [etk] at HT2);(have HTK := Aside0.mk htk);(have hpc : p ≤ cw := by have h1_ := (Kd.R_reads' HS.out.wait).2.1; have h2_ := HPW.out; omega);(clear htk etk)
          go_wp2_with fail
          go_roundg f
          case measure => have := HF.out; omega
          case rel => exact ⟨own, ts, met, wait.take p, HTK, HT2, HO, ⟨fun v_ hv_ => HN.out v_ (List.mem_of_mem_take hv_)⟩, HTM⟩
       ·(rw [if_neg hsz] at ht);(exact absurd ht (by simp))
  ·rw [if_neg e2] at h
   exact absurd h (by simp)
 ·rw [if_neg e0] at h
  simp only [Option.some.injEq, Prod.mk.injEq] at h
  obtain ⟨rfl, rfl⟩ := h
  have h0b : (er == 0) = false := beq_eq_false_iff_ne.mpr e0
  have h0c : (er != 0) = true := bne_iff_ne.mpr e0
  clear e0
  go_enter Try.func32, Try.ntmps32
  go_wp2_with (first
    | ((with_reducible refine gate_dst (N := 3) rfl ?_); refine box_event ?hg (N := 3) ?hd (cs := #[.int .i64 a0_0, .int .i64 a0_1, .int .i64 a0_2, .slice A0_3 l0_3.length c0_3]) (t := 26) ?hr ?_; (case hd => rfl); (case hg => rfl); (case hr => first | (go_simp; done) | (go_simp; rfl)); intro gn hg w1 hbox hb; have HB1 := Aside0.mk (below_step HB.out hb); have BN := Aside0.mk hbox; clear HB hb hbox hg; have hcz0 : w1.cell? ⟨gn, 0, none⟩ = some (.int .i64 a0_0) := (blk_cell BN.out 0).trans rfl; have hcz1 : w1.cell? ⟨gn, 1, none⟩ = some (.int .i64 a0_1) := (blk_cell BN.out 1).trans rfl; have hcz2 : w1.cell? ⟨gn, 2, none⟩ = some (.int .i64 a0_2) := (blk_cell BN.out 2).trans rfl; have hcz3 : w1.cell? ⟨gn, 3, none⟩ = some (.slice A0_3 l0_3.length c0_3) := (blk_cell BN.out 3).trans rfl))
  refine wp_scope_straight ?_
  go_wp2_with (first
    | (go_at_call 29; refine (residual_Room.calls k a0_0 a0_1 a0_2 A0_3 c0_3 l0_3 A1 c1 l1 room er _ ?s1 HC.out ?s2 HC1.out HRM.out).mono ?_; (case s1 => exact Kd.C_below HR.out HB1.out); (case s2 => exact Kd.C_below HF.out HB1.out); rintro e w2 ⟨v8, rfl, ho, hb⟩; have HB2 := Aside0.mk (below_step HB1.out hb); clear ho hb HB1 BN hcz0 hcz1 hcz2 hcz3))
  rw [Exit.noGoto_ret]
  go_ret2
  exact ⟨_, rfl, Kd.R_nil _ _ _ _ _, HB2.out⟩
end Go.Proofs.Ytdiaedecnfbgdaa.PPlainAgain
