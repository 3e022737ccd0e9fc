/- For the law PlainFills, for every input: printed by a program (wip/myprint), contracts by hand where it says MANUAL. -/
-- slim
import Derived.Test.YtdiaedecnfbgdaaPPlainFillsx0
import Derived.Test.YtdiaedecnfbgdaaPPlainFillsx6
import Derived.Test.YtdiaedecnfbgdaaPPlainFillsx7
namespace Go.Proofs.Ytdiaedecnfbgdaa.PPlainFills
open Go.RowKit Go.Proofs.YtdiaedecnfbgdaaW.PrintWords Go.Proofs.YtdiaedecnfbgdaaW.PrintLast Go.Proofs.YtdiaedecnfbgdaaW.PrintMore
attribute [local go_sem] max2_int min2_int max_two min_two max_three min_three max_four min_four
set_option linter.unusedVariables false
set_option linter.unusedSimpArgs false
/-! ### level_Levels: function 48 -/
-- MANUAL: this contract was written by hand.
open Go.Proofs.YtdiaedecnfbgdaaW.Mine
/-- Where a track begins, and where it ends. -/
def lvFrom (l : List S30) (r : Int) : Int := if r % 2 = 1 then (rd_T30 l (r / 2)).f1 else (rd_T30 l (r / 2)).f0
def lvTo (l : List S30) (r : Int) : Int := if r % 2 = 1 then (rd_T30 l (r / 2)).f0 else (rd_T30 l (r / 2)).f1
theorem lvEnds {n s t r : Int} {l : List S30} (h0 : 0 ≤ r) (h1 : r < 2 * (l.length : Int)) (hl : l.length ≤ 2000) : residual_Ends.f 1 n s t l r = some (lvFrom l r, lvTo l r) := by
 have hd : Int.tdiv r 2 = r / 2 := Int.tdiv_eq_ediv_of_nonneg h0
 have hw : wrap64 (r / 2) = r / 2 := by unfold wrap64; omega
 have hb : Go.bits .and .i64 r 1 = r % 2 := by
  have := bits_mask .i64 63 (by decide) (fun n h0 h1 => by rw [IntKind.wrap_i64]; omega) 1 (by decide) r h0 (by omega)
  simpa using this
 unfold residual_Ends.f
 rw [if_neg (by omega)]
 simp only [residual_Ends.j0, hd, hw, hb]
 rw [if_neg (by simp; omega), if_pos (by omega), if_pos (by omega)]
 unfold lvFrom lvTo
 by_cases c : r % 2 = 1
 ·rw [if_pos c, if_pos c, if_pos c]
 ·rw [if_neg c, if_neg c, if_neg c]
def lvOne (l : List S30) (room : List Int) (least k : Int) (s : List Int × List Int) (r : Int) : List Int × List Int := if least ≤ rd room r ∧ rd s.1 (lvTo l r) = -1 then (s.1.set (lvTo l r).toNat k, s.2 ++ [lvTo l r]) else s
def lvScan (l : List S30) (room : List Int) (least k : Int) (s : List Int × List Int) (rs : List Int) : List Int × List Int := rs.foldl (lvOne l room least k) s
def lvRow (l : List S30) (room : List Int) (ts : List (List Int)) (least k : Int) (s : List Int × List Int) (vs : List Int) : List Int × List Int := vs.foldl (fun s v => lvScan l room least k s (ts.getD v.toNat [])) s
def lvTurn (l : List S30) (room : List Int) (ts : List (List Int)) (least : Int) : Nat → List Int → List Int → Int → Option (List Int)
 | 0, _, _, _ => none
 | f + 1, out, next, k => if next.length = 0 then some out else if (lvRow l room ts least k (out, []) next).2.length ≤ 1000000 then lvTurn l room ts least f (lvRow l room ts least k (out, []) next).1 (lvRow l room ts least k (out, []) next).2 (wrap64 (k + 1)) else none
def lvFit (n s : Int) (l : List S30) (room : List Int) : Bool := decide (1 ≤ n ∧ n ≤ 1000000 ∧ 0 ≤ s ∧ s ≤ n ∧ l.length ≤ 2000 ∧ room.length = 2 * l.length) && l.all fun a => decide (0 ≤ a.f0 ∧ a.f0 ≤ n ∧ 0 ≤ a.f1 ∧ a.f1 ≤ n)
def level_Levels.f (k : Nat) (a0_0 : Int) (a0_1 : Int) (a0_2 : Int) (l0_3 : List (S30)) (l1 : List Int) (a2 : Int) : Option (List Int × Int) := (residual_Room.f k a0_0 a0_1 a0_2 l0_3 l1).bind fun p => if p.2 = 0 then (if a2 < 1 then some ([], 3) else if lvFit a0_0 a0_1 l0_3 p.1 = true then (lvTurn l0_3 p.1 (trAll (lvFrom l0_3) (a0_0 + 1).toNat p.1.length) a2 k ((List.replicate (a0_0 + 1).toNat (-1)).set a0_1.toNat 0) [a0_1] 1).bind (fun o => some (o, 0)) else none) else some ([], p.2)
theorem lvTurn.mono (l : List S30) (room : List Int) (ts : List (List Int)) (least : Int) : ∀ (f : Nat) (out next : List Int) (k : Int), LeO (lvTurn l room ts least f out next k) (lvTurn l room ts least (f + 1) out next k)
 | 0, _, _, _ => fun r h => by simp [lvTurn] at h
 | f + 1, out, next, k => by
  rw [lvTurn, lvTurn]
  exact LeO.ite (LeO.refl _) (LeO.ite (lvTurn.mono l room ts least f _ _ _) (LeO.none _))
theorem level_Levels.mono : ∀ a0 a1 a2 a3 a4 a5 k, LeO (level_Levels.f k a0 a1 a2 a3 a4 a5) (level_Levels.f (k + 1) a0 a1 a2 a3 a4 a5) := by
 intro a0 a1 a2 a3 a4 a5 k
 unfold level_Levels.f
 refine LeO.bind (residual_Room.mono _ _ _ _ _ _) (fun p => LeO.ite (LeO.ite (LeO.refl _) (LeO.ite (LeO.bind (lvTurn.mono _ _ _ _ _ _ _ _) (fun _ => LeO.refl _)) (LeO.refl _))) (LeO.refl _))
theorem lvScan_le (l : List S30) (room : List Int) (least k : Int) : ∀ (rs : List Int) (s : List Int × List Int), s.2.length ≤ (lvScan l room least k s rs).2.length
 | [], s => Nat.le_refl _
 | r :: rs, s => by
  have h := lvScan_le l room least k rs (lvOne l room least k s r)
  have h1 : s.2.length ≤ (lvOne l room least k s r).2.length := by unfold lvOne; split <;> simp
  exact Nat.le_trans h1 h
theorem lvRow_le (l : List S30) (room : List Int) (ts : List (List Int)) (least k : Int) : ∀ (vs : List Int) (s : List Int × List Int), s.2.length ≤ (lvRow l room ts least k s vs).2.length
 | [], s => Nat.le_refl _
 | v :: vs, s => Nat.le_trans (lvScan_le l room least k _ s) (lvRow_le l room ts least k vs _)
theorem lvTo_in {n s : Int} {l : List S30} {room : List Int} (h : lvFit n s l room = true) {r : Int} (h0 : 0 ≤ r) (h1 : r < (room.length : Int)) : (0 ≤ lvFrom l r ∧ lvFrom l r ≤ n) ∧ 0 ≤ lvTo l r ∧ lvTo l r ≤ n := by
 simp only [lvFit, Bool.and_eq_true, decide_eq_true_eq, List.all_eq_true] at h
 obtain ⟨⟨g0, g1, g2, g3, g4, g5⟩, hl⟩ := h
 have hlt : (r / 2).toNat < l.length := by omega
 have e : rd_T30 l (r / 2) = l[(r / 2).toNat] := by simp [rd_T30, hlt]
 have ha := hl _ (List.getElem_mem hlt)
 rw [← e] at ha
 unfold lvFrom lvTo
 split <;> omega
theorem lvScan_cons (l : List S30) (room : List Int) (least k : Int) (s : List Int × List Int) (r : Int) (rs : List Int) : lvScan l room least k s (r :: rs) = lvScan l room least k (lvOne l room least k s r) rs := rfl
theorem lvRow_cons (l : List S30) (room : List Int) (ts : List (List Int)) (least k : Int) (s : List Int × List Int) (v : Int) (vs : List Int) : lvRow l room ts least k s (v :: vs) = lvRow l room ts least k (lvScan l room least k s (ts.getD v.toNat [])) vs := rfl
theorem lv_succ {j : Nat} (h : j < 9223372036854775807) : Value.int .i64 (wrap64 ((j : Int) + 1)) = Value.int .i64 ((j + 1 : Nat) : Int) := by
 have e : wrap64 ((j : Int) + 1) = ((j + 1 : Nat) : Int) := by unfold wrap64; omega
 rw [e]
theorem lvturn.calls (gw gx : Nat) (A A' : Option Addr) (n c n' c' : Nat) (w : World) (hne : gw ≠ gx) (hw : w.cell? ⟨gw, 0, none⟩ = some (.slice A n c)) (hx : w.cell? ⟨gx, 0, none⟩ = some (.slice A' n' c')) (fw : w.frozen? ⟨gw, 0, none⟩ = false) (fx : w.frozen? ⟨gx, 0, none⟩ = false) (b : Bool) (hb : decide (0 < n') = b) :
  Calls Try.prog 60 #[.pointer (some ⟨gx, 0, none⟩), .pointer (some ⟨gw, 0, none⟩)] w fun e w' => e = .returned (.bool b) ∧ ∃ q, w' = ((w.setCell ⟨gw, 0, none⟩ (.slice A' n' c')).setCell ⟨gx, 0, none⟩ (.slice A 0 c)).drewN q := by
 have hne' := hne.symm
 have HBB := Aside0.mk hb
 clear hb
 go_enter Try.func60, Try.ntmps60
 go_wp2_with fail
 go_region
 all_goals (go_wp2_with fail)
 all_goals go_ret
 all_goals exact ⟨by rw [← HBB.out]; rfl, 1, rfl⟩
set_option maxHeartbeats 8000000 in
set_option maxRecDepth 100000 in
theorem level_Levels.calls (k : Nat) (a0_0 : Int) (a0_1 : Int) (a0_2 : Int) (A0_3 : Option Addr) (c0_3 : Nat) (l0_3 : List (S30)) (A1 : Option Addr) (c1 : Nat) (l1 : List Int) (a2 : Int) (r1 : List Int) (r2 : Int) (w : World) (hr0_3 : Kd.C k30 w A0_3 l0_3.length l0_3) (hc0_3 : l0_3.length ≤ c0_3) (hr1 : Kd.C (Kd.int .i64) w A1 l1.length l1) (hc1 : l1.length ≤ c1) (h : level_Levels.f k a0_0 a0_1 a0_2 l0_3 l1 a2 = some (r1, r2)) :
  Calls Try.prog 48 #[.agg #[.int .i64 a0_0, .int .i64 a0_1, .int .i64 a0_2, .slice A0_3 l0_3.length c0_3], .slice A1 l1.length c1, .int .i64 a2] w fun e w' => ∃ v0_ : Value, e = .returned (.tuple #[v0_, .int .i64 r2]) ∧ Kd.R (Kd.int .i64) 3 w' w.heap.size (fun _ => True) v0_ r1 ∧ Below w.heap.size w w' := by
 have hu26 := Try.underlying26
 have hu28 := Try.underlying30
 have hmf : ∀ (fn : Fn) (first cap : Array Value) (w : World), (Instr.makeFunc fn first cap).run Try.prog w = .ok (.func fn first cap) w := fun _ _ _ _ => rfl
 unfold level_Levels.f at h
 obtain ⟨⟨room, er⟩, hroom, h⟩ := Option.bind_eq_some_iff.mp h
 simp only at h
 have HRM := Aside0.mk hroom
 have HR := Aside0.mk hr0_3
 have HC := Aside0.mk hc0_3
 have HF := Aside0.mk hr1
 have HC1 := Aside0.mk hc1
 have HB := Aside0.mk (Below.refl w.heap.size w)
 clear hroom hr0_3 hc0_3 hr1 hc1
 by_cases e0 : er = 0
 ·rw [if_pos e0] at h
  subst e0
  by_cases e1 : a2 < 1
  ·rw [if_pos e1] at h
   (simp only [Option.some.injEq, Prod.mk.injEq] at h);(obtain ⟨rfl, rfl⟩ := h)
   go_enter Try.func48, Try.ntmps48
   go_wp2_with (first
    | ((with_reducible refine gate_dst (N := 3) rfl ?_); refine box_event ?hg (N := 3) ?hd (cs := #[.int .i64 a0_0, .int .i64 a0_1, .int .i64 a0_2, .slice A0_3 l0_3.length c0_3]) (t := 26) ?hr ?_; (case hd => rfl); (case hg => rfl); (case hr => first | (go_simp; done) | (go_simp; rfl)); intro gn hg w1 hbox hb; have HB1 := Aside0.mk (below_step HB.out hb); have BN := Aside0.mk hbox; clear HB hb hbox hg; have hcz0 : w1.cell? ⟨gn, 0, none⟩ = some (.int .i64 a0_0) := (blk_cell BN.out 0).trans rfl; have hcz1 : w1.cell? ⟨gn, 1, none⟩ = some (.int .i64 a0_1) := (blk_cell BN.out 1).trans rfl; have hcz2 : w1.cell? ⟨gn, 2, none⟩ = some (.int .i64 a0_2) := (blk_cell BN.out 2).trans rfl; have hcz3 : w1.cell? ⟨gn, 3, none⟩ = some (.slice A0_3 l0_3.length c0_3) := (blk_cell BN.out 3).trans rfl)
    | (go_at_call 29; refine (residual_Room.calls k a0_0 a0_1 a0_2 A0_3 c0_3 l0_3 A1 c1 l1 room 0 _ ?s1 HC.out ?s2 HC1.out HRM.out).mono ?_; (case s1 => exact Kd.C_below HR.out HB1.out); (case s2 => exact Kd.C_below HF.out HB1.out); rintro e w2 ⟨v8, rfl, ho, hb⟩; have HB2 := Aside0.mk (below_step HB1.out hb); clear ho hb HB1 BN hcz0 hcz1 hcz2 hcz3))
   go_ret2
   exact ⟨_, rfl, Kd.R_nil _ _ _ _ _, HB2.out⟩
  rw [if_neg e1] at h
  by_cases e2 : lvFit a0_0 a0_1 l0_3 room = true
  ·rw [if_pos e2] at h
   (obtain ⟨ro, hturn, h⟩ := Option.bind_eq_some_iff.mp h);(simp only [Option.some.injEq, Prod.mk.injEq] at h);(obtain ⟨rfl, rfl⟩ := h);(have E2 := Aside0.mk e2);(simp only [lvFit, Bool.and_eq_true, decide_eq_true_eq] at e2);(obtain ⟨⟨g0, g1, g2, g3, g4, g5⟩, -⟩ := e2);(obtain ⟨m, hm⟩ : ∃ m : Nat, a0_0 + 1 = (m : Int) := ⟨(a0_0 + 1).toNat, by omega⟩);(have hm1 : (a0_0 + 1).toNat = m := by omega);(rw [hm1] at hturn);(obtain ⟨s, rfl⟩ : ∃ s : Nat, a0_1 = (s : Int) := ⟨a0_1.toNat, by omega⟩);(rw [Int.toNat_natCast] at hturn);(have HT := Aside0.mk hturn);(have HW : Aside0 (wrap64 (a0_0 + 1) = (m : Int)) := ⟨by unfold wrap64; omega⟩);(have G := Aside0.mk (show 2 ≤ m ∧ m ≤ 1000001 ∧ a0_0 < (m : Int) ∧ s < m ∧ l0_3.length ≤ 2000 ∧ room.length = 2 * l0_3.length by omega));(have hM := HW.out);(have e1b : decide (a2 < 1) = false := by simpa using e1);(clear hturn hm1 g0 g1 g2 g3 g4 g5 hm)
   go_enter Try.func48, Try.ntmps48
   go_wp2_with (first
    | ((with_reducible refine gate_dst (N := 3) rfl ?_); refine box_event ?hg (N := 3) ?hd (cs := #[.int .i64 a0_0, .int .i64 (s : Int), .int .i64 a0_2, .slice A0_3 l0_3.length c0_3]) (t := 26) ?hr ?_; (case hd => rfl); (case hg => rfl); (case hr => first | (go_simp; done) | (go_simp; rfl)); intro gn hg w1 hbox hb; have HB1 := Aside0.mk (below_step HB.out hb); have BN := Aside0.mk hbox; have GN : Aside0 (w.heap.size ≤ gn) := ⟨by rw [hg]; exact Nat.le_refl _⟩; clear HB hb hbox hg; have hcz0 : w1.cell? ⟨gn, 0, none⟩ = some (.int .i64 a0_0) := (blk_cell BN.out 0).trans rfl; have hcz1 : w1.cell? ⟨gn, 1, none⟩ = some (.int .i64 (s : Int)) := (blk_cell BN.out 1).trans rfl; have hcz2 : w1.cell? ⟨gn, 2, none⟩ = some (.int .i64 a0_2) := (blk_cell BN.out 2).trans rfl; have hcz3 : w1.cell? ⟨gn, 3, none⟩ = some (.slice A0_3 l0_3.length c0_3) := (blk_cell BN.out 3).trans rfl)
    | (go_at_call 29; refine (residual_Room.calls k a0_0 (s : Int) a0_2 A0_3 c0_3 l0_3 A1 c1 l1 room 0 _ ?s1 HC.out ?s2 HC1.out HRM.out).mono ?_; (case s1 => exact Kd.C_below HR.out HB1.out); (case s2 => exact Kd.C_below HF.out HB1.out); rintro e w2 ⟨v8, rfl, ho, hb⟩; obtain ⟨A8, c8, eo⟩ := Kd.R_slice ho; subst eo; have HB2 := Aside0.mk (below_step HB1.out hb); have BN2 := Aside0.mk (blk_below BN.out hb); have HO := Aside0.mk (Kd.R_lower ho (below_size HB1.out)); clear ho hb HB1 BN hcz0 hcz1 hcz2 hcz3; have hcz0 : w2.cell? ⟨gn, 0, none⟩ = some (.int .i64 a0_0) := (blk_cell BN2.out 0).trans rfl; have hcz1 : w2.cell? ⟨gn, 1, none⟩ = some (.int .i64 (s : Int)) := (blk_cell BN2.out 1).trans rfl; have hcz2 : w2.cell? ⟨gn, 2, none⟩ = some (.int .i64 a0_2) := (blk_cell BN2.out 2).trans rfl; have hcz3 : w2.cell? ⟨gn, 3, none⟩ = some (.slice A0_3 l0_3.length c0_3) := (blk_cell BN2.out 3).trans rfl)
    | ((with_reducible refine gate_dst (N := 42) rfl ?_); refine make_event ?mg (N := 42) ?md (t := 80) (e := 22) (x := .tmp 41) (y := .tmp 41) ?mo (m : Int) ?mx ?my Try.underlying80 (.slice none 0 0) 24 info22 rfl (by decide) (by omega) ?ml ?_; (case md => rfl); (case mg => rfl); (case mo => rfl); (case mx => first | (go_simp; done) | (go_simp; rfl)); (case my => first | (go_simp; done) | (go_simp; rfl)); (case ml => have := G.out; omega); intro gt hgt w3 hw3; rw [Int.toNat_natCast] at hw3 ⊢; have HW3 := Aside0.mk hw3; have HGT := Aside0.mk hgt; have hcy0 : w3.cell? ⟨gn, 0, none⟩ = some (.int .i64 a0_0) := (by rw [hw3]; exact (blk_cell (blk_alloc BN2.out _) 0).trans rfl); clear hw3 hgt hcz0 hcz1 hcz2 hcz3)
    | ((with_reducible refine gate_dst (N := 46) rfl ?_); refine Kd.R_make (Kd.int .i64) (w0 := w) w.heap.size 3 ?ng (N := 46) ?nd 22 (.tmp 45) (.tmp 45) ?no (m : Int) ?nx ?ny Try.underlying22 (.int .i64 0) 8 info3 rfl (by decide) (by decide) (0 : Int) (ok := fun k_ => w2.heap.size < k_) (okp := fun _ => False) rfl (fun _ h_ => h_.elim) ?nf (by omega) ?nl ?nb ?ns ?_; (case nd => rfl); (case ng => rfl); (case no => rfl); (case nx => first | (go_simp; done) | (go_simp; rfl)); (case ny => first | (go_simp; done) | (go_simp; rfl)); (case nl => have := G.out; omega); (case nb => rw [HW3.out]; exact below_alloc HB2.out _); (case ns => rw [HW3.out]; exact below_size (below_alloc HB2.out _)); (case nf => rw [HW3.out]; exact blk_lt (blk_new _ _)); intro v11 w4 ho4 hb4 hg4 hn4; have hp4 : 0 < (List.replicate (m : Int).toNat (0 : Int)).length := (by have := G.out; simp; omega); obtain ⟨go, co, hv, hgo, hgl, cl, hcl⟩ := Kd.R_form ho4 hp4; rw [List.length_replicate, Int.toNat_natCast] at hv; subst hv; rw [Int.toNat_natCast] at ho4; rw [HW3.out] at hg4; have HPH := Aside0.mk (Ph.start HB2.out BN2.out GN.out HO.out (by decide) hg4 ho4 hb4); rw [← HGT.out] at HPH; clear ho4 hb4 hg4 hn4 hp4 hgo hgl cl hcl HW3 HB2 BN2 HO hcy0))
   go_loopg [49] (m + 1) (fun kq v49 wr => ∃ (j : Nat) (out : List Int), v49 = .int .i64 j ∧ Aside0 (j + kq = m + 1 ∧ 0 < kq) ∧ Aside0 (out.length = m ∧ ∀ i : Nat, i < j → out[i]? = some (-1)) ∧ Aside0 (Ph 26 2 3 22 (own0 gn gt) w wr gn #[.int .i64 a0_0, .int .i64 (s : Int), .int .i64 a0_2, .slice A0_3 l0_3.length c0_3] (.slice A8 room.length c8) room go m co out gt (List.replicate m [])))
   case atStart => exact ⟨0, List.replicate m 0, rfl, ⟨by omega⟩, ⟨List.length_replicate, fun i hi => absurd hi (by omega)⟩, HPH⟩
   case round =>
    (clear HPH);(obtain ⟨j, out, rfl, HK, HO, HP⟩ := hrel)
    by_cases hlt : j < m
    ·(have hlt2 : (j : Int) < (m : Int) := by omega);(have hj0 : (0 : Int) ≤ (j : Int) := by omega);(obtain ⟨hx, hfx⟩ := Kd.R_celln 0 HP.out.out (j : Int) (by omega) (by omega));(have hpa := HP.out.put (j : Int) (-1));(rw [Int.toNat_natCast] at hx hfx hpa);(have HPa := Aside0.mk hpa)
     have HO2 : Aside0 ((out.set j (-1)).length = m ∧ ∀ i : Nat, i < j + 1 → (out.set j (-1))[i]? = some (-1)) := ⟨by rw [List.length_set]; exact HO.out.1, fun i hi => by
      by_cases c : i = j
      ·subst c; rw [List.getElem?_set_self (by rw [HO.out.1]; exact hlt)]
      ·rw [List.getElem?_set_ne (fun e => c e.symm)]; exact HO.out.2 i (by omega)⟩
     clear hpa HP
     go_wp2_with fail
     obtain ⟨hk1, hk2⟩ := HK.out
     go_roundg (gk - 1)
     case measure => omega
     case rel => exact ⟨j + 1, out.set j (-1), lv_succ (by have h_ := G.out; omega), ⟨by omega⟩, HO2, HPa⟩
    ·have hjm : j = m := by have := HK.out; omega
     have hout : out = List.replicate m (-1) := by
      apply List.ext_getElem?
      intro i
      by_cases c : i < m
      ·rw [HO.out.2 i (by omega), List.getElem?_replicate, if_pos c]
      ·rw [List.getElem?_eq_none (by have := HO.out.1; omega), List.getElem?_eq_none (by rw [List.length_replicate]; omega)]
     (subst hout);(clear HO);(have hge : ¬ ((j : Int) < (m : Int)) := by omega)
     go_wp2_with fail
     go_loopg [58] (room.length + 1) (fun kq v58 wr => ∃ (j : Nat) (own : Nat → Nat), v58 = .int .i64 j ∧ Aside0 (j + kq = room.length + 1 ∧ 0 < kq) ∧ Aside0 (Ph 26 2 3 22 own w wr gn #[.int .i64 a0_0, .int .i64 (s : Int), .int .i64 a0_2, .slice A0_3 l0_3.length c0_3] (.slice A8 room.length c8) room go m co (List.replicate m (-1)) gt (trAll (lvFrom l0_3) m j)))
     case atStart => exact ⟨0, _, rfl, ⟨by omega⟩, HP⟩
     case round =>
      (clear HP);(obtain ⟨j, own, rfl, HK, HP⟩ := hrel)
      by_cases hlt : j < room.length
      ·(have hlt2 : (j : Int) < (room.length : Int) := by omega);(have hj0 : (0 : Int) ≤ (j : Int) := by omega);(have hin := lvTo_in E2.out (r := (j : Int)) (by omega) (by omega));(have hG := G.out);(have HE := Aside0.mk (lvEnds (n := a0_0) (s := (s : Int)) (t := a0_2) (r := (j : Int)) (l := l0_3) (by omega) (by omega) (by omega)));(obtain ⟨v, hv⟩ : ∃ v : Nat, lvFrom l0_3 (j : Int) = (v : Int) := ⟨(lvFrom l0_3 (j : Int)).toNat, by omega⟩);(have hvm : v < m := by omega);(have hvm2 : (v : Int) < (m : Int) := by omega);(have hv0 : (0 : Int) ≤ (v : Int) := by omega);(have hel := List.getElem?_eq_getElem (l := trAll (lvFrom l0_3) m j) (i := v) (by rw [trAll_length]; exact hvm));(obtain ⟨x, hx⟩ : ∃ x, (trAll (lvFrom l0_3) m j)[v]'(by rw [trAll_length]; exact hvm) = x := ⟨_, rfl⟩);(rw [hx] at hel);(have HX := Aside0.mk hel);(have HXL := Aside0.mk (trAll_mem _ m j v x hel).1)
       have hadd : trAll (lvFrom l0_3) m (j + 1) = (trAll (lvFrom l0_3) m j).set v (x ++ [(j : Int)]) := by
        rw [trAll, trAdd, hv, Int.toNat_natCast, List.getD_eq_getElem?_getD, hel]; rfl
       (have HADD := Aside0.mk hadd);(rw [hv] at HE);(obtain ⟨z, hz⟩ : ∃ z, lvTo l0_3 (j : Int) = z := ⟨_, rfl⟩);(rw [hz] at HE);(have hcz0 : wr.cell? ⟨gn, 0, none⟩ = some (.int .i64 a0_0) := (blk_cell HP.out.net.2.2 0).trans rfl);(have hcz1 : wr.cell? ⟨gn, 1, none⟩ = some (.int .i64 (s : Int)) := (blk_cell HP.out.net.2.2 1).trans rfl);(have hcz2 : wr.cell? ⟨gn, 2, none⟩ = some (.int .i64 a0_2) := (blk_cell HP.out.net.2.2 2).trans rfl);(have hcz3 : wr.cell? ⟨gn, 3, none⟩ = some (.slice A0_3 l0_3.length c0_3) := (blk_cell HP.out.net.2.2 3).trans rfl);(clear hin hG hel hx hadd hv hz hvm)
       go_wp2_with (first
        | (go_at_call 49; refine (residual_Ends.calls 1 a0_0 (s : Int) a0_2 A0_3 c0_3 l0_3 (j : Int) (v : Int) z _ ?s1 HC.out HE.out).mono ?_; (case s1 => exact Kd.C_below HR.out HP.out.below); rintro e w5 ⟨rfl, hb⟩; have HP5 := Aside0.mk (HP.out.move hb); clear hb HP hcz0 hcz1 hcz2 hcz3; obtain ⟨Ax, cx, hxc, hxf, hxr⟩ := HP5.out.tr.at HX.out; have HXR := Aside0.mk hxr; have HXC := Aside0.mk hxc; clear hxr)
        | ((with_reducible refine gate_builtin (b := .append) (xs := #[.tmp 72, .tmp 74]) rfl ?_); at_builtin; refine Kd.R_append (Kd.int .i64) (w0 := w) w.heap.size rfl (.tmp 72) (.tmp 74) 22 3 (.int .i64 0) 8 rfl Try.underlying22 info3 rfl (by decide) (by omega) (.slice Ax x.length cx) x (j : Int) [.int .i64 j] (fun k_ => own k_ = 10 + v ∨ w5.heap.size ≤ k_) (fun _ => False) rfl (by first | (go_simp; done) | (go_simp; rfl)) ?aP (fun _ hk => hk.elim) ?aF ?aO ?aB ?aS ?aL ?_; (case aP => exact rfl); (case aF => exact (fun _ h_ => .inr h_)); (case aO => exact HXR.out.open_); (case aB => exact HP5.out.below); (case aS => exact below_size HP5.out.below); (case aL => have h1_ := HXL.out; have h2_ := G.out; omega); intro u1 w6 ho hb6 hg hat; obtain ⟨Au, cu, eu⟩ := Kd.R_slice ho; subst eu; have hh := HP5.out.tr.hold HXC.out (fun k_ e_ => HXR.out.1 k_ e_) hg; obtain ⟨hc6, hf6⟩ := hh; have HO6 := Aside0.mk ho; have HB6 := Aside0.mk hb6; have HG6 := Aside0.mk hg; clear ho hb6 hg hat hxc hxf)
        | ((with_reducible refine gate_store (t := 22) (p := 76) rfl ?_); refine store_event (t := 22) (p := 76) (v := ?va) (w1 := (w6.setCell ⟨gt, v, none⟩ (.slice Au (x ++ [(j : Int)]).length cu))) ?hg ?ho ?hn ?hr ?_; (case ho => rfl); (case hg => rfl); (case hn => rfl); (case hr => first | (go_simp; done) | (go_simp; rfl)); intro w7 hw; have hp7 := Ph.push HP5.out HX.out HXR.out HG6.out HO6.out HB6.out; rw [← hw, ← HADD.out] at hp7; have HP7 := Aside0.mk hp7; clear hp7 hw hc6 hf6 HO6 HB6 HG6 HP5 HXR HXC))
       obtain ⟨hk1, hk2⟩ := HK.out
       go_roundg (gk - 1)
       case measure => omega
       case rel => exact ⟨j + 1, _, lv_succ (by have h_ := G.out; omega), ⟨by omega⟩, HP7⟩
      ·(have hge : ¬ ((j : Int) < (room.length : Int)) := by omega);(have hjr : j = room.length := by have := HK.out; omega);(subst hjr);(obtain ⟨ts, hts⟩ : ∃ ts, trAll (lvFrom l0_3) m room.length = ts := ⟨_, rfl⟩);(have htl : ts.length = m := by rw [← hts]; exact trAll_length _ _ _)
       have htm : ∀ (v : Nat) (x : List Int), ts[v]? = some x → x.length ≤ 4000 ∧ ∀ r ∈ x, 0 ≤ r ∧ r < (room.length : Int) := fun v x h_ => by
        (rw [← hts] at h_);(have h1 := trAll_mem _ _ _ _ _ h_);(have h2 := G.out);(exact ⟨by omega, h1.2⟩)
       (have ht := HT.out);(have hp := HP.out);(rw [hts] at ht hp);(have HT2 := Aside0.mk ht);(have HP2 := Aside0.mk hp);(have HTL := Aside0.mk htl);(have HTM := Aside0.mk htm);(clear ht hp htl htm hts HT HP HK);(have hsm : (s : Int) < (m : Int) := by have := G.out; omega);(have hs0 : (0 : Int) ≤ (s : Int) := by omega);(have hcz1 : wr.cell? ⟨gn, 1, none⟩ = some (.int .i64 (s : Int)) := (blk_cell HP2.out.net.2.2 1).trans rfl)
       go_wp2_with (first
        | ((with_reducible refine gate_dst (N := 16) rfl ?_); refine box_event ?hg (N := 16) ?hd (cs := #[.slice none 0 0]) (t := 22) ?hr ?_; (case hd => rfl); (case hg => rfl); (case hr => first | (go_simp; done) | (go_simp; rfl)); intro gw hgw w8 hb8 hl8; have HGW := Aside0.mk hgw; have HB8 := Aside0.mk hb8; have HL8 := Aside0.mk hl8; clear hgw hb8 hl8 hcz1)
        | ((with_reducible refine gate_dst (N := 17) rfl ?_); refine box_event ?hg (N := 17) ?hd (cs := #[.slice none 0 0]) (t := 22) ?hr ?_; (case hd => rfl); (case hg => rfl); (case hr => first | (go_simp; done) | (go_simp; rfl)); intro gx hgx w9 hb9 hl9; have HS9 := Aside0.mk (St.start HP2.out HGW.out HB8.out HL8.out hgx hb9 hl9); clear hgx hb9 hl9 HGW HB8 HL8 HP2; have hcz1 : w9.cell? ⟨gn, 1, none⟩ = some (.int .i64 (s : Int)) := (blk_cell HS9.out.ph.net.2.2 1).trans rfl; obtain ⟨hxs, hxf⟩ := Kd.R_celln 0 HS9.out.ph.out (s : Int) hs0 hsm; rw [Int.toNat_natCast] at hxs hxf)
        | ((with_reducible refine gate_store (t := 3) (p := 81) rfl ?_); refine store_event (t := 3) (p := 81) (v := ?vb) (w1 := (w9.setCell ⟨go, s, none⟩ (.int .i64 0))) ?hg ?ho ?hn ?hr ?_; (case ho => rfl); (case hg => rfl); (case hn => rfl); (case hr => first | (go_simp; done) | (go_simp; rfl)); intro w10 hw; have hp := HS9.out.put (s : Int) 0; rw [Int.toNat_natCast, ← hw] at hp; have HS10 := Aside0.mk hp; clear hp hw hcz1 hxs hxf HS9; have hcz1 : w10.cell? ⟨gn, 1, none⟩ = some (.int .i64 (s : Int)) := (blk_cell HS10.out.ph.net.2.2 1).trans rfl; have hcx : w10.cell? ⟨gx, 0, none⟩ = some (.slice none 0 0) := (blk_cell HS10.out.bx.2.2 0).trans rfl)
        | ((with_reducible refine gate_builtin (b := .append) (xs := #[.tmp 82, .tmp 85]) rfl ?_); at_builtin; refine Kd.R_append (Kd.int .i64) (w0 := w) w.heap.size rfl (.tmp 82) (.tmp 85) 22 3 (.int .i64 0) 8 rfl Try.underlying22 info3 rfl (by decide) (by omega) (.slice none 0 0) [] (s : Int) [.int .i64 (s : Int)] (fun k_ => own1 own gw gx k_ = 3 ∨ w10.heap.size ≤ k_) (fun _ => False) rfl (by first | (go_simp; done) | (go_simp; rfl)) ?bP (fun _ hk => hk.elim) ?bF ?bO ?bB ?bS ?bL ?_; (case bP => exact rfl); (case bF => exact (fun _ h_ => .inr h_)); (case bO => exact HS10.out.next.open_); (case bB => exact HS10.out.ph.below); (case bS => exact below_size HS10.out.ph.below); (case bL => simp); intro u2 w11 ho hb11 hg hat; obtain ⟨A2, c2, eu⟩ := Kd.R_slice ho; subst eu; obtain ⟨hc11, hf11⟩ := HS10.out.holdx hg; have HO11 := Aside0.mk ho; have HB11 := Aside0.mk hb11; have HG11 := Aside0.mk hg; clear ho hb11 hg hat hcz1 hcx)
        | ((with_reducible refine gate_store (t := 22) (p := 17) rfl ?_); refine store_event (t := 22) (p := 17) (v := ?vc) (w1 := (w11.setCell ⟨gx, 0, none⟩ (.slice A2 ([] ++ [(s : Int)]).length c2))) ?hg ?ho ?hn ?hr ?_; (case ho => rfl); (case hg => rfl); (case hn => rfl); (case hr => first | (go_simp; done) | (go_simp; rfl)); intro w12 hw; have hp := St.push HS10.out HG11.out HO11.out HB11.out; rw [← hw] at hp; have HS12 := Aside0.mk hp; clear hp hw hc11 hf11 HO11 HB11 HG11 HS10))
       go_loopg [19] k (fun kq v19 wr => ∃ (own : Nat → Nat) (a b : Nat) (vw vx : Value) (now next out : List Int) (c : Int), v19 = .int .i64 c ∧ Aside0 (St 26 2 3 22 own w wr gn #[.int .i64 a0_0, .int .i64 (s : Int), .int .i64 a0_2, .slice A0_3 l0_3.length c0_3] (.slice A8 room.length c8) room go m co out gt ts gw gx a b vw vx now next) ∧ Aside0 (lvTurn l0_3 room ts a2 kq out next c = some ro) ∧ Aside0 (out.length = m) ∧ Aside0 (∀ v ∈ next, 0 ≤ v ∧ v < (m : Int)))
       case atStart => exact ⟨_, _, _, _, _, _, _, _, 1, rfl, HS12, HT2, ⟨by rw [List.length_set, List.length_replicate]⟩, ⟨fun v hv => by obtain rfl := List.mem_singleton.1 hv; exact ⟨hs0, hsm⟩⟩⟩
       case round =>
        (clear HS12 HT2);(obtain ⟨own, a, b, vw, vx, now, next, out, c, rfl, HS, HT, HO, HN⟩ := hrel)
        obtain ⟨f, hf⟩ : ∃ f, gk = f + 1 := by
         cases gk with
         | zero => have := HT.out; simp [lvTurn] at this
         | succ f => exact ⟨f, rfl⟩
        (have ht := HT.out);(rw [hf, lvTurn] at ht);(have HF := Aside0.mk hf);(clear hf HT);(obtain ⟨Aw, cw, ew⟩ := Kd.R_slice HS.out.now);(subst ew);(obtain ⟨Ax, cx, ex⟩ := Kd.R_slice HS.out.next);(subst ex)
        have hne : gw ≠ gx := fun e_ => by
         (have h4 := HS.out.bw.1);(have h5 := HS.out.bx.1);(rw [e_] at h4)
         omega
        (have HNE := Aside0.mk hne);(clear hne)
        by_cases hz : next.length = 0
        ·(rw [if_pos hz] at ht);(obtain rfl := Option.some.inj ht);(clear ht)
         go_wp2_with (go_at_call 60; refine (lvturn.calls gw gx Aw Ax now.length cw next.length cx _ HNE.out ((blk_cell HS.out.bw.2.2 0).trans rfl) ((blk_cell HS.out.bx.2.2 0).trans rfl) (blk_frozen HS.out.bw.2.2 0) (blk_frozen HS.out.bx.2.2 0) false (by simp [hz])).mono ?_; rintro e w' ⟨rfl, q, hw'⟩; have hp := HS.out.turn.move (pw_below_drewN (Below.refl _ _) q); rw [← hw'] at hp; have HS2 := Aside0.mk hp; clear hp hw' HS)
         go_ret2
         exact ⟨_, rfl, Kd.R_mono HS2.out.ph.out (fun _ _ => trivial), HS2.out.ph.below⟩
        ·(rw [if_neg hz] at ht);(obtain ⟨S, hS⟩ : ∃ S, lvRow l0_3 room ts a2 c (out, []) next = S := ⟨_, rfl⟩);(rw [hS] at ht)
         by_cases hsz : S.2.length ≤ 1000000
         ·(rw [if_pos hsz] at ht);(have HT := Aside0.mk ht);(have HSS := Aside0.mk hS);(have HSZ := Aside0.mk hsz);(have hz1 : decide (0 < next.length) = true := by simp; omega);(have HZ := Aside0.mk hz1);(clear ht hS hsz hz hz1)
          go_wp2_with (go_at_call 60; refine (lvturn.calls gw gx Aw Ax now.length cw next.length cx _ HNE.out ((blk_cell HS.out.bw.2.2 0).trans rfl) ((blk_cell HS.out.bx.2.2 0).trans rfl) (blk_frozen HS.out.bw.2.2 0) (blk_frozen HS.out.bx.2.2 0) true HZ.out).mono ?_; rintro e w' ⟨rfl, q, hw'⟩; have hp := HS.out.turn.move (pw_below_drewN (Below.refl _ _) q); rw [← hw'] at hp; have HS2 := Aside0.mk hp; clear hp hw' HS; have hcw : w'.cell? ⟨gw, 0, none⟩ = some (.slice Ax next.length cx) := (blk_cell HS2.out.bw.2.2 0).trans rfl)
          go_loopg [94] (next.length + 1) (fun kq v94 wr => ∃ (j : Nat) (own : Nat → Nat) (vx2 : Value) (nx2 out2 : List Int), v94 = .int .i64 j ∧ Aside0 (j + kq = next.length + 1 ∧ 0 < kq) ∧ Aside0 (St 26 2 3 22 own w wr gn #[.int .i64 a0_0, .int .i64 (s : Int), .int .i64 a0_2, .slice A0_3 l0_3.length c0_3] (.slice A8 room.length c8) room go m co out2 gt ts gw gx b a (.slice Ax next.length cx) vx2 next nx2) ∧ Aside0 (lvRow l0_3 room ts a2 c (out2, nx2) (next.drop j) = S) ∧ Aside0 (out2.length = m) ∧ Aside0 (∀ v ∈ nx2, 0 ≤ v ∧ v < (m : Int)))
          case atStart => exact ⟨0, _, _, [], out, rfl, ⟨by omega⟩, HS2, HSS, HO, ⟨fun v hv => by cases hv⟩⟩
          case round =>
           (clear HS2 HSS HO hcw);(obtain ⟨j, own, vx2, nx2, out2, rfl, HK, HS, HSS, HO, HNX⟩ := hrel);(obtain ⟨g4, hg4⟩ : ∃ g4, gk - 1 = g4 := ⟨_, rfl⟩);(have HG4 : Aside0 (g4 < gk ∧ (j + 1) + g4 = next.length + 1 ∧ (j < next.length → 0 < g4)) := ⟨by have := HK.out; omega⟩);(clear hg4)
           by_cases hlt : j < next.length
           ·(have hlt2 : (j : Int) < (next.length : Int) := by omega);(have hj0 : (0 : Int) ≤ (j : Int) := by omega);(have hvn := HN.out next[j] (List.getElem_mem hlt));(obtain ⟨g9, hg9, hrd⟩ := HS.out.now.read hlt);(subst hg9);(have hdr : next.drop j = next[j] :: next.drop (j + 1) := List.drop_eq_getElem_cons hlt);(obtain ⟨v, hv⟩ : ∃ v : Nat, next[j] = (v : Int) := ⟨(next[j]).toNat, by omega⟩);(rw [hv] at hvn hrd hdr);(have hvm : v < m := by omega);(have hvm2 : (v : Int) < (m : Int) := by omega);(have hv0 : (0 : Int) ≤ (v : Int) := by omega);(have hel := List.getElem?_eq_getElem (l := ts) (i := v) (by rw [HTL.out]; exact hvm));(obtain ⟨x, hx⟩ : ∃ x, ts[v]'(by rw [HTL.out]; exact hvm) = x := ⟨_, rfl⟩);(rw [hx] at hel);(have HXM := Aside0.mk (HTM.out v x hel));(have hss := HSS.out);(rw [hdr, lvRow_cons, Int.toNat_natCast, List.getD_eq_getElem?_getD, hel] at hss);(have HSS2 : Aside0 (lvRow l0_3 room ts a2 c (lvScan l0_3 room a2 c (out2, nx2) x) (next.drop (j + 1)) = S) := ⟨hss⟩);(obtain ⟨At, ct, hcv, _, hRt⟩ := HS.out.ph.tr.at hel);(have HRT := Aside0.mk hRt);(have htl2 : (v : Int) < (ts.length : Int) := by rw [HTL.out]; exact hvm2);(clear hss hdr hx hel hv hvn hRt HSS hvm)
            go_wp2_with fail
            go_loopg [103] (x.length + 1) (fun kq v103 wr => ∃ (i : Nat) (own : Nat → Nat) (vx3 : Value) (nx3 out3 : List Int), v103 = .int .i64 i ∧ Aside0 (i + kq = x.length + 1 ∧ 0 < kq) ∧ Aside0 (St 26 2 3 22 own w wr gn #[.int .i64 a0_0, .int .i64 (s : Int), .int .i64 a0_2, .slice A0_3 l0_3.length c0_3] (.slice A8 room.length c8) room go m co out3 gt ts gw gx b a (.slice (some ⟨g9, 0, none⟩) next.length cx) vx3 next nx3) ∧ Aside0 (Rw own (10 + v) 3 wr w.heap.size (.slice At x.length ct) x) ∧ Aside0 (lvRow l0_3 room ts a2 c (lvScan l0_3 room a2 c (out3, nx3) (x.drop i)) (next.drop (j + 1)) = S) ∧ Aside0 (out3.length = m) ∧ Aside0 (∀ v ∈ nx3, 0 ≤ v ∧ v < (m : Int)))
            case atStart => exact ⟨0, _, _, nx2, out2, rfl, ⟨by omega⟩, HS, HRT, HSS2, HO, HNX⟩
            case round =>
             (clear HS HRT HSS2 HO HNX hrd hcv);(obtain ⟨i, own, vx3, nx3, out3, rfl, HK, HS, HRT, HSS, HO, HNX⟩ := hrel)
             by_cases hit : i < x.length
             ·(have hit2 : (i : Int) < (x.length : Int) := by omega);(have hi0 : (0 : Int) ≤ (i : Int) := by omega);(have hrn := HXM.out.2 x[i] (List.getElem_mem hit));(obtain ⟨g7, hg7, hrd⟩ := HRT.out.read hit);(subst hg7);(have hdr : x.drop i = x[i] :: x.drop (i + 1) := List.drop_eq_getElem_cons hit);(obtain ⟨r, hr⟩ : ∃ r : Nat, x[i] = (r : Int) := ⟨(x[i]).toNat, by omega⟩);(rw [hr] at hrn hrd hdr);(have hG := G.out);(have hrm : r < room.length := by omega);(have hrm2 : (r : Int) < (room.length : Int) := by omega);(have hr0 : (0 : Int) ≤ (r : Int) := by omega);(have hin := lvTo_in E2.out (r := (r : Int)) (by omega) (by omega));(have HE := Aside0.mk (lvEnds (n := a0_0) (s := (s : Int)) (t := a0_2) (r := (r : Int)) (l := l0_3) (by omega) (by omega) (by omega)));(obtain ⟨t, ht⟩ : ∃ t : Nat, lvTo l0_3 (r : Int) = (t : Int) := ⟨(lvTo l0_3 (r : Int)).toNat, by omega⟩);(obtain ⟨z, hz⟩ : ∃ z, lvFrom l0_3 (r : Int) = z := ⟨_, rfl⟩);(rw [ht, hz] at HE);(have htm : t < m := by omega);(have htm2 : (t : Int) < (m : Int) := by omega);(have ht0 : (0 : Int) ≤ (t : Int) := by omega);(obtain ⟨g8, hg8, hrr⟩ := HS.out.ph.room.read hrm);(subst hg8);(have hto : t < out3.length := by rw [HO.out]; exact htm);(obtain ⟨hou, hof⟩ := Kd.R_celln 0 HS.out.ph.out (t : Int) ht0 htm2);(rw [Int.toNat_natCast] at hou hof);(have hss := HSS.out);(have er : rd room (r : Int) = room[r] := by simp [rd, hrm]);(have eo : rdOf 0 out3 (t : Int) = rd out3 (t : Int) := by simp [rd, rdOf, hto]);(rw [hdr, lvScan_cons, lvOne, ht, Int.toNat_natCast, er] at hss);(rw [eo] at hou);(have HQ0 := Aside0.mk eo);(obtain ⟨y, hy⟩ : ∃ y, room[r] = y := ⟨_, rfl⟩);(obtain ⟨q, hq⟩ : ∃ q, rd out3 (t : Int) = q := ⟨_, rfl⟩);(rw [hy, hq] at hss);(rw [hy] at hrr);(rw [hq] at hou);(have HQ : Aside0 (rdOf 0 out3 (t : Int) = q) := ⟨by rw [HQ0.out]; exact hq⟩);(clear HQ0);(have hcz0 : wr.cell? ⟨gn, 0, none⟩ = some (.int .i64 a0_0) := (blk_cell HS.out.ph.net.2.2 0).trans rfl);(have hcz1 : wr.cell? ⟨gn, 1, none⟩ = some (.int .i64 (s : Int)) := (blk_cell HS.out.ph.net.2.2 1).trans rfl);(have hcz2 : wr.cell? ⟨gn, 2, none⟩ = some (.int .i64 a0_2) := (blk_cell HS.out.ph.net.2.2 2).trans rfl);(have hcz3 : wr.cell? ⟨gn, 3, none⟩ = some (.slice A0_3 l0_3.length c0_3) := (blk_cell HS.out.ph.net.2.2 3).trans rfl);(have HTM2 := Aside0.mk htm);(have hs3 : (a2 ≤ y ∧ q = -1 → True) := fun _ => trivial);(clear hs3 hrn hdr hG hin hz ht hto er eo hy hq htm hrm hr HSS);(obtain ⟨Ay, cy, ey⟩ := Kd.R_slice HS.out.next);(subst ey)
              by_cases q1 : a2 ≤ y
              ·by_cases q2 : q = -1
               ·(subst q2);(rw [if_pos ⟨q1, rfl⟩] at hss);(have HSS := Aside0.mk hss);(clear hss)
                have hln : nx3.length + 1 ≤ 1000000 := by
                 (have h1 := lvScan_le l0_3 room a2 c (x.drop (i + 1)) (out3.set t c, nx3 ++ [(t : Int)]));(have h2 := lvRow_le l0_3 room ts a2 c (next.drop (j + 1)) (lvScan l0_3 room a2 c (out3.set t c, nx3 ++ [(t : Int)]) (x.drop (i + 1))));(rw [HSS.out] at h2);(have h3 := HSZ.out);(simp only [List.length_append, List.length_cons, List.length_nil] at h1)
                 omega
                (have HLN := Aside0.mk hln);(clear hln);(have hab := HS.out.ab);(have HAB : Aside0 (a ≠ 5 ∧ a < 10 ∧ a ≠ 1) := ⟨by omega⟩);(clear hab)
                go_wp2_with (first
                 | (go_at_call 49; refine (residual_Ends.calls 1 a0_0 (s : Int) a0_2 A0_3 c0_3 l0_3 (r : Int) z (t : Int) _ ?s1 HC.out HE.out).mono ?_; (case s1 => exact Kd.C_below HR.out HS.out.ph.below); rintro e w5 ⟨rfl, hb⟩; have HS5 := Aside0.mk (HS.out.move hb); have HRT5 := Aside0.mk (HRT.out.stay (T := fun _ => False) (Stay.below hb) id); replace hrr := pw_cell_below hb hrr; clear hou hof hb HS HRT hcz0 hcz1 hcz2 hcz3 hrd; obtain ⟨hou, hof⟩ := Kd.R_celln 0 HS5.out.ph.out (t : Int) ht0 htm2; rw [Int.toNat_natCast] at hou hof; rw [HQ.out] at hou)
                 | ((with_reducible refine gate_store (t := 3) (p := 129) rfl ?_); refine store_event (t := 3) (p := 129) (v := ?vd) (w1 := (w5.setCell ⟨go, t, none⟩ (.int .i64 c))) ?hg ?ho ?hn ?hr ?_; (case ho => rfl); (case hg => rfl); (case hn => rfl); (case hr => first | (go_simp; done) | (go_simp; rfl)); intro w6 hw; have hp := HS5.out.put (t : Int) c; rw [Int.toNat_natCast, ← hw] at hp; have HS6 := Aside0.mk hp; have hp2 := HRT5.out.stay (T := fun t_ => t_ = 1) (Stay.set (u := .int .i64 c) (p := ⟨go, t, none⟩) HS5.out.ph.out.block) (by omega); rw [← hw] at hp2; have HRT6 := Aside0.mk hp2; clear hp hp2 hw HS5 HRT5 hou hof hrr; have hcx : w6.cell? ⟨gx, 0, none⟩ = some (.slice Ay nx3.length cy) := (blk_cell HS6.out.bx.2.2 0).trans rfl)
                 | ((with_reducible refine gate_builtin (b := .append) (xs := #[.tmp 130, .tmp 132]) rfl ?_); at_builtin; refine Kd.R_append (Kd.int .i64) (w0 := w) w.heap.size rfl (.tmp 130) (.tmp 132) 22 3 (.int .i64 0) 8 rfl Try.underlying22 info3 rfl (by decide) (by omega) (.slice Ay nx3.length cy) nx3 (t : Int) [.int .i64 (t : Int)] (fun k_ => own k_ = a ∨ w6.heap.size ≤ k_) (fun _ => False) rfl (by first | (go_simp; done) | (go_simp; rfl)) ?cP (fun _ hk => hk.elim) ?cF ?cO ?cB ?cS ?cL ?_; (case cP => exact rfl); (case cF => exact (fun _ h_ => .inr h_)); (case cO => exact HS6.out.next.open_); (case cB => exact HS6.out.ph.below); (case cS => exact below_size HS6.out.ph.below); (case cL => have h_ := HLN.out; omega); intro u3 w7 ho hb7 hg hat; obtain ⟨A3, c3, eu⟩ := Kd.R_slice ho; subst eu; obtain ⟨hc7, hf7⟩ := HS6.out.holdx hg; have HO7 := Aside0.mk ho; have HB7 := Aside0.mk hb7; have HG7 := Aside0.mk hg; clear ho hb7 hg hat hcx)
                 | ((with_reducible refine gate_store (t := 22) (p := 17) rfl ?_); refine store_event (t := 22) (p := 17) (v := ?ve) (w1 := (w7.setCell ⟨gx, 0, none⟩ (.slice A3 (nx3 ++ [(t : Int)]).length c3))) ?hg ?ho ?hn ?hr ?_; (case ho => rfl); (case hg => rfl); (case hn => rfl); (case hr => first | (go_simp; done) | (go_simp; rfl)); intro w8 hw; have hp := St.push HS6.out HG7.out HO7.out HB7.out; have hp2 := (HRT6.out.stay (T := fun t_ => t_ = a) (Stay.grown (tag := a) HG7.out (fun k_ e_ => HS6.out.next.1 k_ e_)) (by have h_ := HAB.out; omega)).stay (T := fun t_ => t_ = 5) (Stay.set (u := .slice A3 (nx3 ++ [(t : Int)]).length c3) (p := ⟨gx, 0, none⟩) hp.bx.1) (by omega); rw [← hw] at hp hp2; have HS8 := Aside0.mk hp; have HRT8 := Aside0.mk hp2; clear hp hp2 hw hc7 hf7 HO7 HB7 HG7 HS6 HRT6))
                obtain ⟨hk1, hk2⟩ := HK.out
                go_roundg (gk - 1)
                case measure => omega
                case rel => exact ⟨i + 1, _, _, nx3 ++ [(t : Int)], out3.set t c, lv_succ (by have h_ := HXM.out.1; omega), ⟨by omega⟩, HS8, HRT8, HSS, ⟨by rw [List.length_set]; exact HO.out⟩, ⟨fun v_ hv_ => (List.mem_append.1 hv_).elim (HNX.out v_) (fun h_ => by obtain rfl := List.mem_singleton.1 h_; exact ⟨ht0, htm2⟩)⟩⟩
               ·(rw [if_neg (fun h_ => q2 h_.2)] at hss);(have HSS := Aside0.mk hss);(have q2b : (q == -1) = false := beq_eq_false_iff_ne.mpr q2);(clear hss q2)
                go_wp2_with (go_at_call 49; refine (residual_Ends.calls 1 a0_0 (s : Int) a0_2 A0_3 c0_3 l0_3 (r : Int) z (t : Int) _ ?s1 HC.out HE.out).mono ?_; (case s1 => exact Kd.C_below HR.out HS.out.ph.below); rintro e w5 ⟨rfl, hb⟩; have HS5 := Aside0.mk (HS.out.move hb); have HRT5 := Aside0.mk (HRT.out.stay (T := fun _ => False) (Stay.below hb) id); replace hrr := pw_cell_below hb hrr; clear hou hof hb HS HRT hcz0 hcz1 hcz2 hcz3 hrd; obtain ⟨hou, hof⟩ := Kd.R_celln 0 HS5.out.ph.out (t : Int) ht0 htm2; rw [Int.toNat_natCast] at hou hof; rw [HQ.out] at hou)
                obtain ⟨hk1, hk2⟩ := HK.out
                go_roundg (gk - 1)
                case measure => omega
                case rel => exact ⟨i + 1, own, _, nx3, out3, lv_succ (by have h_ := HXM.out.1; omega), ⟨by omega⟩, HS5, HRT5, HSS, HO, HNX⟩
              ·(rw [if_neg (fun h_ => q1 h_.1)] at hss);(have HSS := Aside0.mk hss);(have q1b : decide (a2 ≤ y) = false := by simpa using q1);(clear hss)
               go_wp2_with (go_at_call 49; refine (residual_Ends.calls 1 a0_0 (s : Int) a0_2 A0_3 c0_3 l0_3 (r : Int) z (t : Int) _ ?s1 HC.out HE.out).mono ?_; (case s1 => exact Kd.C_below HR.out HS.out.ph.below); rintro e w5 ⟨rfl, hb⟩; have HS5 := Aside0.mk (HS.out.move hb); have HRT5 := Aside0.mk (HRT.out.stay (T := fun _ => False) (Stay.below hb) id); replace hrr := pw_cell_below hb hrr; clear hou hof hb HS HRT hcz0 hcz1 hcz2 hcz3 hrd; obtain ⟨hou, hof⟩ := Kd.R_celln 0 HS5.out.ph.out (t : Int) ht0 htm2; rw [Int.toNat_natCast] at hou hof; rw [HQ.out] at hou)
               obtain ⟨hk1, hk2⟩ := HK.out
               go_roundg (gk - 1)
               case measure => omega
               case rel => exact ⟨i + 1, own, _, nx3, out3, lv_succ (by have h_ := HXM.out.1; omega), ⟨by omega⟩, HS5, HRT5, HSS, HO, HNX⟩
             ·(have hge : ¬ ((i : Int) < (x.length : Int)) := by omega);(have hss := HSS.out);(rw [List.drop_of_length_le (by omega)] at hss);(have HSS2 : Aside0 (lvRow l0_3 room ts a2 c (out3, nx3) (next.drop (j + 1)) = S) := ⟨hss⟩);(clear hss HSS)
              go_wp2_with fail
              go_roundg g4
              case measure => exact HG4.out.1
              case rel => exact ⟨j + 1, own, vx3, nx3, out3, lv_succ (by have h_ := Kd.C_max (Kd.R_reads' HS.out.now).2.2; unfold maxLen at h_; omega), ⟨by have := HG4.out; omega⟩, HS, HSS2, HO, HNX⟩
           ·(have hge : ¬ ((j : Int) < (next.length : Int)) := by omega);(have hss := HSS.out);(rw [List.drop_of_length_le (by omega)] at hss);(have hss2 : (out2, nx2) = S := hss);(subst hss2);(clear hss HSS)
            go_wp2_with fail
            go_roundg f
            case measure => have := HF.out; omega
            case rel => exact ⟨own, _, _, _, _, next, nx2, out2, wrap64 (c + 1), rfl, HS, HT, HO, HNX⟩
         ·(rw [if_neg hsz] at ht);(exact absurd ht (by simp))
  ·rw [if_neg e2] at h
   exact absurd h (by simp)
 ·rw [if_neg e0] at h
  simp only [Option.some.injEq, Prod.mk.injEq] at h
  obtain ⟨rfl, rfl⟩ := h
  have h0b : (er == 0) = false := beq_eq_false_iff_ne.mpr e0
  have h0c : (er != 0) = true := bne_iff_ne.mpr e0
  clear e0
  go_enter Try.func48, Try.ntmps48
  go_wp2_with (first
    | ((with_reducible refine gate_dst (N := 3) rfl ?_); refine box_event ?hg (N := 3) ?hd (cs := #[.int .i64 a0_0, .int .i64 a0_1, .int .i64 a0_2, .slice A0_3 l0_3.length c0_3]) (t := 26) ?hr ?_; (case hd => rfl); (case hg => rfl); (case hr => first | (go_simp; done) | (go_simp; rfl)); intro gn hg w1 hbox hb; have HB1 := Aside0.mk (below_step HB.out hb); have BN := Aside0.mk hbox; clear HB hb hbox hg; have hcz0 : w1.cell? ⟨gn, 0, none⟩ = some (.int .i64 a0_0) := (blk_cell BN.out 0).trans rfl; have hcz1 : w1.cell? ⟨gn, 1, none⟩ = some (.int .i64 a0_1) := (blk_cell BN.out 1).trans rfl; have hcz2 : w1.cell? ⟨gn, 2, none⟩ = some (.int .i64 a0_2) := (blk_cell BN.out 2).trans rfl; have hcz3 : w1.cell? ⟨gn, 3, none⟩ = some (.slice A0_3 l0_3.length c0_3) := (blk_cell BN.out 3).trans rfl)
    | (go_at_call 29; refine (residual_Room.calls k a0_0 a0_1 a0_2 A0_3 c0_3 l0_3 A1 c1 l1 room er _ ?s1 HC.out ?s2 HC1.out HRM.out).mono ?_; (case s1 => exact Kd.C_below HR.out HB1.out); (case s2 => exact Kd.C_below HF.out HB1.out); rintro e w2 ⟨v8, rfl, ho, hb⟩; have HB2 := Aside0.mk (below_step HB1.out hb); clear ho hb HB1 BN hcz0 hcz1 hcz2 hcz3))
  go_ret2
  exact ⟨_, rfl, Kd.R_nil _ _ _ _ _, HB2.out⟩
end Go.Proofs.Ytdiaedecnfbgdaa.PPlainFills
