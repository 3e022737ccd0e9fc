/- For the law DecompTwice, for every input: printed by a program (wip/myprint), contracts by hand where it says MANUAL. -/
-- slim
import Derived.Test.YtnjdjnoncoeffaaPDecompTwicex0
import Derived.Test.YtnjdjnoncoeffaaPDecompTwicex9
import Derived.Test.YtnjdjnoncoeffaaPDecompTwicex10
import Derived.Test.YtnjdjnoncoeffaaPDecompTwicex16
namespace Go.Proofs.Ytnjdjnoncoeffaa.PDecompTwice
open Go.RowKit Go.Proofs.YtnjdjnoncoeffaaW.PrintWords Go.Proofs.YtnjdjnoncoeffaaW.PrintLast Go.Proofs.YtnjdjnoncoeffaaW.PrintMore
attribute [local go_sem] max2_int min2_int max_two min_two max_three min_three max_four min_four
set_option linter.unusedVariables false
set_option linter.unusedSimpArgs false
/-! ### decomp_walker_take: function 21 -/
-- MANUAL: this contract was written by hand.
open Go.Proofs.YtnjdjnoncoeffaaW.Mine
/-- The least amount along arcs. -/
def dcMost (left : List Int) : List Int → Int → Int
 | [], a => a
 | r :: rs, a => dcMost left rs (if rd left r < a then rd left r else a)
/-- What is taken off leaves less. -/
def dcPour (am : Int) : List Int → List Int → List Int
 | [], left => left
 | r :: rs, left => dcPour am rs (left.set r.toNat (wrap64 (rd left r - am)))
theorem dcPour_len (am : Int) : ∀ (xs left : List Int), (dcPour am xs left).length = left.length
 | [], _ => rfl
 | r :: rs, left => by rw [dcPour, dcPour_len am rs, List.length_set]
def dcAm (left : List Int) (value kind : Int) (xs : List Int) : Int := dcMost left xs (if kind = 99 then rd left (rd xs 0) else if value < wrap64 (-value) then wrap64 (-value) else value)
def dcVal (value kind am : Int) : Int := if kind = 112 then wrap64 (value - am) else if kind = 98 then wrap64 (value + am) else value
/-- The next item, what is left behind it, its value, and the arcs that may be left. -/
def dcTake (l : List S30) (left : List Int) (s t value : Int) (first : Int) (k : Nat) (ts : List (List Int)) : Option (S36 × List Int × Int × List (List Int)) :=
 (dcItem l left s t value first k ts).bind fun p => if p.2.1.length = 0 then none else if p.2.1.all (fun r => decide (0 ≤ r ∧ r < (left.length : Int))) = true ∧ p.2.1.length ≤ 2000000 then
  some (⟨p.1, p.2.1, dcAm left value p.1 p.2.1⟩, dcPour (dcAm left value p.1 p.2.1) p.2.1 left, dcVal value p.1 (dcAm left value p.1 p.2.1), p.2.2) else none
theorem dcTake.mono (l : List S30) (left : List Int) (s t value : Int) (first : Int) (k : Nat) (ts : List (List Int)) : LeO (dcTake l left s t value first k ts) (dcTake l left s t value first (k + 1) ts) :=
 LeO.bind (dcItem.mono _ _ _ _ _ _ _ _) (fun _ => LeO.refl _)
/-- While an item is taken off. -/
structure Dk (tw te tl ti tk : Nat) (own own1 : Nat → Nat) (w0 w W : World) (gw : Nat) (c0 c1 c2 c3 : Value) (vl : Value) (left : List Int) (value : Int) (gt m : Nat) (ts : List (List Int)) (first : Int) (gr gx : Nat) (kd am : Int) (vx : Value) (xs : List Int) : Prop where
 dl : Dl tw te tl own1 w0 W gw c0 c1 c2 c3 vl left value gt m ts first
 rb : own1 gr = 5 ∧ W.heap[gr]? = some (.cells #[.int .u8 0, .slice none 0 0, .int .i64 0] tk (0, 0))
 xb : own1 gx = 4 ∧ W.heap[gx]? = some (.cells #[.int .u8 kd, vx, .int .i64 am] tk (0, 0))
 xr : (Kd.int .i64).R ti W w0.heap.size (fun k_ => own1 k_ = 3 ∧ w.heap.size ≤ k_) vx xs
 st : Stay own own1 DlT w W ∧ w.heap.size ≤ W.heap.size
 lo : w0.heap.size ≤ w.heap.size ∧ w.heap.size ≤ gr ∧ w.heap.size ≤ gx
section
variable {tw te tl ti tk : Nat} {own own1 own2 : Nat → Nat} {T : Nat → Prop} {w0 w W W1 : World} {gw : Nat} {c0 c1 c2 c3 : Value} {vl : Value} {left left2 : List Int} {value value2 : Int} {gt m : Nat} {ts : List (List Int)} {first : Int} {gr gx : Nat} {kd am : Int} {vx : Value} {xs : List Int}
theorem Dk.dstep (h : Dk tw te tl ti tk own own1 w0 w W gw c0 c1 c2 c3 vl left value gt m ts first gr gx kd am vx xs) (hd : Dl tw te tl own1 w0 W1 gw c0 c1 c2 c3 vl left2 value2 gt m ts first) (s : Stay own1 own1 DlT W W1) (hs : W.heap.size ≤ W1.heap.size) :
  Dk tw te tl ti tk own own1 w0 w W1 gw c0 c1 c2 c3 vl left2 value2 gt m ts first gr gx kd am vx xs :=
 ⟨hd, dc_blk h.rb s (by unfold DlT; decide), dc_blk h.xb s (by unfold DlT; decide), dc_rstay h.xr s (by unfold DlT; decide), dc_go h.st s hs, h.lo⟩
theorem Dk.move (h : Dk tw te tl ti tk own own1 w0 w W gw c0 c1 c2 c3 vl left value gt m ts first gr gx kd am vx xs) (hb : Below W.heap.size W W1) : Dk tw te tl ti tk own own1 w0 w W1 gw c0 c1 c2 c3 vl left value gt m ts first gr gx kd am vx xs :=
 h.dstep (h.dl.move hb) (Stay.below hb) (below_size hb)
theorem Dk.amount (h : Dk tw te tl ti tk own own1 w0 w W gw c0 c1 c2 c3 vl left value gt m ts first gr gx kd am vx xs) (x : Int) : Dk tw te tl ti tk own own1 w0 w (W.setCell ⟨gx, 2, none⟩ (.int .i64 x)) gw c0 c1 c2 c3 vl left value gt m ts first gr gx kd x vx xs := by
 have s : Stay own1 own1 (fun t => t = 4) W (W.setCell ⟨gx, 2, none⟩ (.int .i64 x)) := Stay.set h.xb.1
 have hl := h.lo
 exact ⟨h.dl.stay s (below_set h.dl.below (by show w0.heap.size ≤ gx; omega)) (by decide) (by decide) (by decide) (fun j => by omega), dc_blk h.rb s (by decide), ⟨h.xb.1, blk_put h.xb.2 2 _ rfl⟩, dc_rstay h.xr s (by decide),
  dc_far h.st (fun k hk => Below.heap_setCell W ⟨gx, 2, none⟩ _ k (fun e => by have e2 : k = gx := e; omega)) (fun k hk => rfl) (dc_size _ _), h.lo⟩
theorem Dk.put {gl nn cc : Nat} (h : Dk tw te tl ti tk own own1 w0 w W gw c0 c1 c2 c3 (.slice (some ⟨gl, 0, none⟩) nn cc) left value gt m ts first gr gx kd am vx xs) (i x : Int) :
  Dk tw te tl ti tk own own1 w0 w (W.setCell ⟨gl, i.toNat, none⟩ (.int .i64 x)) gw c0 c1 c2 c3 (.slice (some ⟨gl, 0, none⟩) nn cc) (left.set i.toNat x) value gt m ts first gr gx kd am vx xs :=
 h.dstep (h.dl.put i x).1 (h.dl.put i x).2 (dc_size _ _)
theorem Dk.setValue (h : Dk tw te tl ti tk own own1 w0 w W gw c0 c1 c2 c3 vl left value gt m ts first gr gx kd am vx xs) (x : Int) : Dk tw te tl ti tk own own1 w0 w (W.setCell ⟨gw, 5, none⟩ (.int .i64 x)) gw c0 c1 c2 c3 vl left x gt m ts first gr gx kd am vx xs :=
 h.dstep (h.dl.setValue x).1 (h.dl.setValue x).2 (dc_size _ _)
theorem Dk.ret (h : Dk tw te tl ti tk own own1 w0 w W gw c0 c1 c2 c3 vl left value gt m ts first gr gx kd am vx xs) :
  (((W.setCell ⟨gr, 0, none⟩ (.int .u8 kd)).setCell ⟨gr, 1, none⟩ vx).setCell ⟨gr, 2, none⟩ (.int .i64 am)).heap[gr]? = some (.cells #[.int .u8 kd, vx, .int .i64 am] tk (0, 0)) ∧
  Dl tw te tl own1 w0 (((W.setCell ⟨gr, 0, none⟩ (.int .u8 kd)).setCell ⟨gr, 1, none⟩ vx).setCell ⟨gr, 2, none⟩ (.int .i64 am)) gw c0 c1 c2 c3 vl left value gt m ts first ∧
  (Stay own own1 DlT w (((W.setCell ⟨gr, 0, none⟩ (.int .u8 kd)).setCell ⟨gr, 1, none⟩ vx).setCell ⟨gr, 2, none⟩ (.int .i64 am)) ∧ w.heap.size ≤ (((W.setCell ⟨gr, 0, none⟩ (.int .u8 kd)).setCell ⟨gr, 1, none⟩ vx).setCell ⟨gr, 2, none⟩ (.int .i64 am)).heap.size) ∧
  (Kd.int .i64).R ti (((W.setCell ⟨gr, 0, none⟩ (.int .u8 kd)).setCell ⟨gr, 1, none⟩ vx).setCell ⟨gr, 2, none⟩ (.int .i64 am)) w0.heap.size (fun k_ => own1 k_ = 3 ∧ w.heap.size ≤ k_) vx xs := by
 have s1 : Stay own1 own1 (fun t => t = 5) W (W.setCell ⟨gr, 0, none⟩ (.int .u8 kd)) := Stay.set h.rb.1
 have s2 : Stay own1 own1 (fun t => t = 5) (W.setCell ⟨gr, 0, none⟩ (.int .u8 kd)) ((W.setCell ⟨gr, 0, none⟩ (.int .u8 kd)).setCell ⟨gr, 1, none⟩ vx) := Stay.set h.rb.1
 have s3 : Stay own1 own1 (fun t => t = 5) ((W.setCell ⟨gr, 0, none⟩ (.int .u8 kd)).setCell ⟨gr, 1, none⟩ vx) (((W.setCell ⟨gr, 0, none⟩ (.int .u8 kd)).setCell ⟨gr, 1, none⟩ vx).setCell ⟨gr, 2, none⟩ (.int .i64 am)) := Stay.set h.rb.1
 have s := (s1.trans (dc_size _ _) s2).trans (Nat.le_trans (dc_size _ _) (dc_size _ _)) s3
 have hl := h.lo
 have hg : w0.heap.size ≤ gr := by omega
 have hz : W.heap.size ≤ (((W.setCell ⟨gr, 0, none⟩ (.int .u8 kd)).setCell ⟨gr, 1, none⟩ vx).setCell ⟨gr, 2, none⟩ (.int .i64 am)).heap.size := Nat.le_trans (dc_size _ _) (Nat.le_trans (dc_size _ _) (dc_size _ _))
 refine ⟨blk_put (blk_put (blk_put h.rb.2 0 _ rfl) 1 vx rfl) 2 _ rfl, h.dl.stay s (below_set (below_set (below_set h.dl.below hg) hg) hg) (by decide) (by decide) (by decide) (fun j => by omega), dc_far h.st (fun k hk => ?_) (fun k hk => rfl) hz, dc_rstay h.xr s (by decide)⟩
 have hk2 : k ≠ gr := by omega
 exact (Below.heap_setCell _ ⟨gr, 2, none⟩ _ k hk2).trans ((Below.heap_setCell _ ⟨gr, 1, none⟩ _ k hk2).trans (Below.heap_setCell W ⟨gr, 0, none⟩ _ k hk2))
end
set_option maxHeartbeats 8000000 in
set_option maxRecDepth 100000 in
theorem dcTake_calls (k : Nat) {own : Nat → Nat} {w0 w : World} {gw : Nat} {n s t : Int} {A3 : Option Addr} {c3 : Nat} {l : List (S30)} {vl : Value} {left : List Int} {value : Int} {gt m : Nat} {ts : List (List Int)} (first : Nat) (hf : first < l.length) {it : S36} {left2 : List Int} {value2 : Int} {ts2 : List (List Int)}
  (HR : Kd.C k30 w0 A3 l.length l) (HC : l.length ≤ c3) (hfit : dcFit n s t l left = true) (hw : DcW n m left.length ts) (hn : dcTake l left s t value (first : Int) k ts = some (it, left2, value2, ts2))
  (h : Dl 58 2 22 own w0 w gw (.int .i64 n) (.int .i64 s) (.int .i64 t) (.slice A3 l.length c3) vl left value gt m ts (first : Int)) :
  Calls Try.prog 21 #[.pointer (some ⟨gw, 0, none⟩)] w fun e w' => ∃ At : Value, e = .returned (.agg #[.int .u8 it.f0, At, .int .i64 it.f2]) ∧ ∃ own' : Nat → Nat, Dl 58 2 22 own' w0 w' gw (.int .i64 n) (.int .i64 s) (.int .i64 t) (.slice A3 l.length c3) vl left2 value2 gt m ts2 (first : Int) ∧ DcW n m left2.length ts2 ∧ left2.length = left.length ∧ Stay own own' DlT w w' ∧ w.heap.size ≤ w'.heap.size ∧ (Kd.int .i64).R 3 w' w0.heap.size (fun k_ => own' k_ = 3 ∧ w.heap.size ≤ k_) At it.f1 := by
 have hu98 := Try.underlying58
 have hu36 := Try.underlying36
 unfold dcTake at hn
 obtain ⟨⟨kd, xs, ts3⟩, hit, hn⟩ := Option.bind_eq_some_iff.mp hn
 simp only at hn
 by_cases hz : xs.length = 0
 ·rw [if_pos hz] at hn
  cases hn
 rw [if_neg hz] at hn
 by_cases hall : xs.all (fun r => decide (0 ≤ r ∧ r < (left.length : Int))) = true ∧ xs.length ≤ 2000000
 case neg =>
  rw [if_neg hall] at hn
  cases hn
 rw [if_pos hall] at hn
 simp only [Option.some.injEq, Prod.mk.injEq] at hn
 obtain ⟨rfl, hl2, hv2, rfl⟩ := hn
 obtain ⟨am, ham⟩ : ∃ am, dcAm left value kd xs = am := ⟨_, rfl⟩
 rw [ham] at hl2 hv2
 have HAM := Aside0.mk ham
 have HL2 := Aside0.mk hl2
 have HV2 := Aside0.mk hv2
 have HIT := Aside0.mk hit
 have HAL : Aside0 (∀ r ∈ xs, 0 ≤ r ∧ r < (left.length : Int)) := ⟨fun r hr => of_decide_eq_true (List.all_eq_true.1 hall.1 r hr)⟩
 have HXL := Aside0.mk hall.2
 have HZ : Aside0 (0 < xs.length) := ⟨by omega⟩
 have HP := Aside0.mk h
 have HW := Aside0.mk hw
 have HRR := Aside0.mk HR
 have HCC := Aside0.mk HC
 have HFF := Aside0.mk hfit
 have HF := Aside0.mk hf
 clear h hw HR HC hfit hf hit hall hz hl2 hv2
 rw [ham]
 clear ham
 go_enter Try.func21, Try.ntmps21
 go_wp2_with (first
  | ((with_reducible refine gate_dst (N := 2) rfl ?_); refine box_event ?hg (N := 2) ?hd (cs := #[.int .u8 0, .slice none 0 0, .int .i64 0]) (t := 36) ?hr ?_; (case hd => rfl); (case hg => rfl); (case hr => first | (go_simp; done) | (go_simp; rfl)); intro gr hgr w1 hbox hb; have BR := Aside0.mk hbox; have GR : Aside0 (gr = w.heap.size) := ⟨hgr⟩; have HB1 := Aside0.mk hb; have hs1 : Stay own (mark own gr 5) DlT w w1 := Stay.mark hb (Nat.le_of_eq hgr.symm); have HS1 := Aside0.mk hs1; have HP1 := Aside0.mk (HP.out.stay (T := fun _ => False) (Stay.mark (t := 5) hb (Nat.le_of_eq hgr.symm)) (below_step HP.out.below hb) id id id (fun _ => id)); clear hbox hgr hb hs1)
  | (go_at_call 29; refine (dcItem_calls k first HF.out HRR.out HCC.out HFF.out HW.out HIT.out HP1.out).mono ?_; rintro e w5 ⟨At, rfl, own1, hd5, hw5, hs5, hz5, hr5⟩; obtain ⟨Ax, cx, ex⟩ := Kd.R_slice hr5; subst ex; have HD5 := Aside0.mk hd5; have HW5 := Aside0.mk hw5; have HS5 := Aside0.mk hs5; have HZ5 := Aside0.mk hz5; have HR5 := Aside0.mk hr5; clear hd5 hw5 hs5 hz5 hr5)
  | ((with_reducible refine gate_dst (N := 3) rfl ?_); refine box_event ?hg (N := 3) ?hd (cs := #[.int .u8 0, .slice none 0 0, .int .i64 0]) (t := 36) ?hr ?_; (case hd => rfl); (case hg => rfl); (case hr => first | (go_simp; done) | (go_simp; rfl)); intro gx hgx w6 hbox hb; have BX := Aside0.mk hbox; have GX : Aside0 (gx = w5.heap.size) := ⟨hgx⟩; have HB6 := Aside0.mk hb; have hc0 : w6.cell? ⟨gx, 0, none⟩ = some (.int .u8 0) := (blk_cell hbox 0).trans rfl; have hc1 : w6.cell? ⟨gx, 1, none⟩ = some (.slice none 0 0) := (blk_cell hbox 1).trans rfl; have hc2 : w6.cell? ⟨gx, 2, none⟩ = some (.int .i64 0) := (blk_cell hbox 2).trans rfl; have hq0 : w6.frozen? ⟨gx, 0, none⟩ = false := blk_frozen hbox 0; have hq1 : w6.frozen? ⟨gx, 1, none⟩ = false := blk_frozen hbox 1; have hq2 : w6.frozen? ⟨gx, 2, none⟩ = false := blk_frozen hbox 2; clear hbox hgx hb))
 have hk7 : Dk 58 2 22 3 36 own (mark own1 gx 4) w0 w (((w6.setCell ⟨gx, 0, none⟩ (.int .u8 kd)).setCell ⟨gx, 1, none⟩ (.slice Ax xs.length cx)).setCell ⟨gx, 2, none⟩ (.int .i64 0)) gw (.int .i64 n) (.int .i64 s) (.int .i64 t) (.slice A3 l.length c3) vl left value gt m ts3 (first : Int) gr gx kd 0 (.slice Ax xs.length cx) xs := by
  have hb6 := HB6.out
  have hgx := GX.out
  have hgr := GR.out
  have hz1 := below_size HB1.out
  have hz5 := HZ5.out
  have h00 := below_size HP.out.below
  have hrl := blk_lt BR.out
  have s6 : Stay own1 (mark own1 gx 4) (fun _ => False) w5 w6 := Stay.mark hb6 (Nat.le_of_eq hgx.symm)
  have b5 : own1 gr = 5 ∧ w5.heap[gr]? = some (.cells #[.int .u8 0, .slice none 0 0, .int .i64 0] 36 (0, 0)) := dc_blk ⟨mark_at own gr 5, BR.out⟩ HS5.out (by unfold DlT; decide)
  have b6 := dc_blk b5 s6 id
  have s : Stay (mark own1 gx 4) (mark own1 gx 4) (fun t => t = 4) w6 (((w6.setCell ⟨gx, 0, none⟩ (.int .u8 kd)).setCell ⟨gx, 1, none⟩ (.slice Ax xs.length cx)).setCell ⟨gx, 2, none⟩ (.int .i64 0)) := ((Stay.set (p := ⟨gx, 0, none⟩) (mark_at own1 gx 4)).trans (dc_size _ _) (Stay.set (p := ⟨gx, 1, none⟩) (mark_at own1 gx 4))).trans (Nat.le_trans (dc_size _ _) (dc_size _ _)) (Stay.set (p := ⟨gx, 2, none⟩) (mark_at own1 gx 4))
  have hg0 : w0.heap.size ≤ gx := by omega
  have hz7 : w6.heap.size ≤ (((w6.setCell ⟨gx, 0, none⟩ (.int .u8 kd)).setCell ⟨gx, 1, none⟩ (.slice Ax xs.length cx)).setCell ⟨gx, 2, none⟩ (.int .i64 0)).heap.size := Nat.le_trans (dc_size _ _) (Nat.le_trans (dc_size _ _) (dc_size _ _))
  have st5 : Stay own own1 DlT w w5 ∧ w.heap.size ≤ w5.heap.size := ⟨Stay.trans HS1.out hz1 HS5.out, by omega⟩
  have st6 := dc_far (own2 := mark own1 gx 4) st5 (fun k_ hk_ => hb6.block k_ (by omega)) (fun k_ hk_ => mark_ne (by omega)) (below_size hb6)
  have st7 := dc_far (own2 := mark own1 gx 4) (W1 := (((w6.setCell ⟨gx, 0, none⟩ (.int .u8 kd)).setCell ⟨gx, 1, none⟩ (.slice Ax xs.length cx)).setCell ⟨gx, 2, none⟩ (.int .i64 0))) st6 (fun k_ hk_ => (Below.heap_setCell _ ⟨gx, 2, none⟩ _ k_ (show k_ ≠ gx by omega)).trans ((Below.heap_setCell _ ⟨gx, 1, none⟩ _ k_ (show k_ ≠ gx by omega)).trans (Below.heap_setCell _ ⟨gx, 0, none⟩ _ k_ (show k_ ≠ gx by omega)))) (fun _ _ => rfl) hz7
  have r5 : (Kd.int .i64).R 3 w5 w0.heap.size (fun k_ => own1 k_ = 3 ∧ w.heap.size ≤ k_) (.slice Ax xs.length cx) xs := Kd.R_mono HR5.out (fun k_ hk_ => ⟨hk_.1, by have h_ := hk_.2; omega⟩)
  exact ⟨(HD5.out.stay s6 (below_step HD5.out.below hb6) id id id (fun _ => id)).stay s (below_set (below_set (below_set (below_step HD5.out.below hb6) hg0) hg0) hg0) (by decide) (by decide) (by decide) (fun j => by omega), dc_blk b6 s (by decide), ⟨mark_at own1 gx 4, blk_put (blk_put (blk_put BX.out 0 _ rfl) 1 _ rfl) 2 _ rfl⟩, dc_rstay (dc_rstay r5 s6 id) s (by decide), st7, ⟨h00, by omega, by omega⟩⟩
 have HK7 := Aside0.mk hk7
 clear hk7 hc0 hc1 hc2 hq0 hq1 hq2 BX GX GR BR HB6 HB1 HS1 HP1 HD5 HS5 HZ5 HR5 HP
 generalize (((w6.setCell ⟨gx, 0, none⟩ (.int .u8 kd)).setCell ⟨gx, 1, none⟩ (.slice Ax xs.length cx)).setCell ⟨gx, 2, none⟩ (.int .i64 0)) = w7 at *
 generalize mark own1 gx 4 = own2 at *
 obtain ⟨ad, ea, hx0⟩ := Kd.at_int (Kd.R_reads' HK7.out.xr).2.2 0 (by decide) (by have h_ := HZ.out; omega)
 subst ea
 have hr0n := HAL.out (xs[0]'HZ.out) (List.getElem_mem HZ.out)
 obtain ⟨r0, hr0⟩ : ∃ r0 : Nat, xs[0]'HZ.out = (r0 : Int) := ⟨(xs[0]'HZ.out).toNat, by omega⟩
 have hlp : 0 < left.length := by omega
 obtain ⟨gl, cl, hvl, _, _, _, _⟩ := Kd.R_form HK7.out.dl.left hlp
 subst hvl
 have e0 : rd xs 0 = (r0 : Int) := by rw [← hr0]; have h_ := HZ.out; simp [rd, h_]
 rw [e0] at hx0
 have hx0 : w7.cell? ad = some (.int .i64 (r0 : Int)) := by rw [Int.toNat_zero, Addr.add_zero'] at hx0; exact hx0
 obtain ⟨hl0, hlf0⟩ := Kd.R_celln (0 : Int) HK7.out.dl.left (r0 : Int) (by omega) (by omega)
 have erd : rdOf (0 : Int) left (r0 : Int) = rd left (r0 : Int) := rfl
 rw [erd, Int.toNat_natCast] at hl0
 have h4 := HK7.out.dl.g4
 have hg1 : w7.cell? ⟨gx, 1, none⟩ = some (.slice (some ad) xs.length cx) := (blk_cell HK7.out.xb.2 1).trans rfl
 have hg2 : w7.cell? ⟨gx, 2, none⟩ = some (.int .i64 0) := (blk_cell HK7.out.xb.2 2).trans rfl
 have hgf : w7.frozen? ⟨gx, 2, none⟩ = false := blk_frozen HK7.out.xb.2 2
 have hxz : (0 : Int) < (xs.length : Int) := by have h_ := HZ.out; omega
 have hrl1 : (r0 : Int) < (left.length : Int) := by omega
 have hrl0 : (0 : Int) ≤ (r0 : Int) := by omega
 generalize hy0 : rd left (r0 : Int) = y0 at hl0
 have HY0 : Aside0 (rd left (rd xs 0) = y0) := ⟨by rw [e0]; exact hy0⟩
 clear hr0n hr0 hlp e0 erd hlf0 hy0
 go_region
 all_goals (have HK8 := Aside0.mk ((HK7.out.amount y0).move (W1 := (w7.setCell ⟨gx, 2, none⟩ (.int .i64 y0)).drew) (below_drew (Below.refl _ _))))
 clear HK7 h4 hg1 hg2 hgf hx0 hl0 hxz hrl1 hrl0
 generalize (w7.setCell ⟨gx, 2, none⟩ (.int .i64 y0)).drew = w8 at *
 have hgk : w8.cell? ⟨gx, 0, none⟩ = some (.int .u8 kd) := (blk_cell HK8.out.xb.2 0).trans rfl
 have h5 := HK8.out.dl.g5
 have hg2 : w8.cell? ⟨gx, 2, none⟩ = some (.int .i64 y0) := (blk_cell HK8.out.xb.2 2).trans rfl
 have hgf : w8.frozen? ⟨gx, 2, none⟩ = false := blk_frozen HK8.out.xb.2 2
 go_upto_if 23 with (fail)
 go_cut [] (fun wc => ∃ a0 : Int, Aside0 (Dk 58 2 22 3 36 own own2 w0 w wc gw (.int .i64 n) (.int .i64 s) (.int .i64 t) (.slice A3 l.length c3) (.slice (some ⟨gl, 0, none⟩) left.length cl) left value gt m ts3 (first : Int) gr gx kd a0 (.slice (some ad) xs.length cx) xs) ∧ Aside0 (dcMost left xs a0 = am))
 case first =>
  have hm := HAM.out
  unfold dcAm at hm
  rw [HY0.out] at hm
  by_cases c1 : kd = 99
  ·rw [if_pos c1] at hm
   (have HM := Aside0.mk hm);(have hq1 : (kd == 99) = true := by simp [c1]);(have hq2 : (kd != 99) = false := by simp [c1]);(clear hm c1)
   go_wp2_with fail
   go_meet
   case rel => exact ⟨y0, HK8, HM⟩
  ·rw [if_neg c1] at hm
   (have hq1 : (kd == 99) = false := by simp [c1]);(have hq2 : (kd != 99) = true := by simp [c1]);(obtain ⟨nv, hnv⟩ : ∃ nv, wrap64 (-value) = nv := ⟨_, rfl⟩);(have hnv2 : IntKind.i64.wrap (-value) = nv := by rw [← hnv, IntKind.wrap_i64]; unfold wrap64; rfl);(rw [hnv] at hm)
   by_cases c2 : value < nv
   ·(rw [if_pos c2] at hm);(have HM := Aside0.mk hm);(clear hm c1)
    go_wp2_with fail
    go_region
    all_goals (go_wp2_with fail)
    all_goals go_meet
    case rel => exact ⟨nv, ⟨(HK8.out.amount nv).move (below_drew (Below.refl _ _))⟩, HM⟩
   ·(rw [if_neg c2] at hm);(have HM := Aside0.mk hm);(clear hm c1)
    go_wp2_with fail
    go_region
    all_goals (go_wp2_with fail)
    all_goals go_meet
    case rel => exact ⟨value, ⟨(HK8.out.amount value).move (below_drew (Below.refl _ _))⟩, HM⟩
 case rest =>
  clear hgk h5 hg2 hgf HK8 HAM HY0
  obtain ⟨a0, HK, HM⟩ := hcut
  have hg1 : wc.cell? ⟨gx, 1, none⟩ = some (.slice (some ad) xs.length cx) := (blk_cell HK.out.xb.2 1).trans rfl
  go_wp2_with fail
  clear hg1
  go_loopg [38] (xs.length + 1) (fun kq v38 wr => ∃ (j : Nat) (a : Int), v38 = .int .i64 j ∧ Aside0 (j + kq = xs.length + 1 ∧ 0 < kq) ∧ Aside0 (dcMost left (xs.drop j) a = am) ∧ Aside0 (Dk 58 2 22 3 36 own own2 w0 w wr gw (.int .i64 n) (.int .i64 s) (.int .i64 t) (.slice A3 l.length c3) (.slice (some ⟨gl, 0, none⟩) left.length cl) left value gt m ts3 (first : Int) gr gx kd a (.slice (some ad) xs.length cx) xs))
  case atStart => exact ⟨0, a0, rfl, ⟨by omega⟩, ⟨by rw [List.drop_zero]; exact HM.out⟩, HK⟩
  case round =>
   (clear HK HM);(obtain ⟨j, a, rfl, HQ, HM, HK⟩ := hrel)
   by_cases hlt : j < xs.length
   ·(have hlt2 : (j : Int) < (xs.length : Int) := by omega);(have hj0 : (0 : Int) ≤ (j : Int) := by omega);(obtain ⟨ad2, ea2, hrd⟩ := Kd.at_int (Kd.R_reads' HK.out.xr).2.2 (j : Int) hj0 hlt2);(cases ea2);(have hm := HM.out);(rw [List.drop_eq_getElem_cons hlt] at hm);(have hrn := HAL.out xs[j] (List.getElem_mem hlt));(have er : rd xs (j : Int) = xs[j] := by simp [rd, hlt]);(rw [er, Int.toNat_natCast] at hrd);(obtain ⟨r, hr⟩ : ∃ r : Nat, xs[j] = (r : Int) := ⟨(xs[j]).toNat, by omega⟩);(rw [hr] at hrn hrd hm);(have hrm2 : (r : Int) < (left.length : Int) := hrn.2);(have hr0' : (0 : Int) ≤ (r : Int) := by omega);(obtain ⟨hrr, hrf⟩ := Kd.R_celln (0 : Int) HK.out.dl.left (r : Int) hr0' hrm2);(have erd : rdOf (0 : Int) left (r : Int) = rd left (r : Int) := rfl);(rw [erd, Int.toNat_natCast] at hrr);(obtain ⟨y, hy⟩ : ∃ y, rd left (r : Int) = y := ⟨_, rfl⟩);(simp only [dcMost] at hm);(rw [hy] at hm hrr);(have HM2 := Aside0.mk hm);(have h4 := HK.out.dl.g4);(have hg2 : wr.cell? ⟨gx, 2, none⟩ = some (.int .i64 a) := (blk_cell HK.out.xb.2 2).trans rfl);(have hgf : wr.frozen? ⟨gx, 2, none⟩ = false := blk_frozen HK.out.xb.2 2);(clear hrn hm hr er erd hy hlt HM hrf)
    by_cases c : y < a
    ·(have HM3 : Aside0 (dcMost left (xs.drop (j + 1)) y = am) := ⟨by have h_ := HM2.out; rwa [if_pos c] at h_⟩);(clear HM2)
     go_wp2_with fail
     go_region
     all_goals (have HK2 := Aside0.mk ((HK.out.amount y).move (W1 := (wr.setCell ⟨gx, 2, none⟩ (.int .i64 y)).drew) (below_drew (Below.refl _ _))))
     all_goals (go_wp2_with fail)
     obtain ⟨hk1, hk2⟩ := HQ.out
     go_roundg (gk - 1)
     case measure => omega
     case rel => exact ⟨j + 1, y, dc_succ (by have h_ := HXL.out; omega), ⟨by omega⟩, HM3, HK2⟩
    ·(have HM3 : Aside0 (dcMost left (xs.drop (j + 1)) a = am) := ⟨by have h_ := HM2.out; rwa [if_neg c] at h_⟩);(clear HM2)
     go_wp2_with fail
     go_region
     all_goals (have HK2 := Aside0.mk ((HK.out.amount a).move (W1 := (wr.setCell ⟨gx, 2, none⟩ (.int .i64 a)).drew) (below_drew (Below.refl _ _))))
     all_goals (go_wp2_with fail)
     obtain ⟨hk1, hk2⟩ := HQ.out
     go_roundg (gk - 1)
     case measure => omega
     case rel => exact ⟨j + 1, a, dc_succ (by have h_ := HXL.out; omega), ⟨by omega⟩, HM3, HK2⟩
   ·(have hge : ¬ ((j : Int) < (xs.length : Int)) := by omega);(have hm := HM.out);(rw [List.drop_of_length_le (by omega)] at hm);(have hm2 : a = am := hm);(subst hm2);(have hg1 : wr.cell? ⟨gx, 1, none⟩ = some (.slice (some ad) xs.length cx) := (blk_cell HK.out.xb.2 1).trans rfl);(clear hm HM hlt)
    go_wp2_with fail
    clear hge hg1
    go_loopg [57] (xs.length + 1) (fun kq v57 wr => ∃ (j : Nat) (lf : List Int), v57 = .int .i64 j ∧ Aside0 (j + kq = xs.length + 1 ∧ 0 < kq) ∧ Aside0 (dcPour a (xs.drop j) lf = left2) ∧ Aside0 (lf.length = left.length) ∧ Aside0 (Dk 58 2 22 3 36 own own2 w0 w wr gw (.int .i64 n) (.int .i64 s) (.int .i64 t) (.slice A3 l.length c3) (.slice (some ⟨gl, 0, none⟩) left.length cl) lf value gt m ts3 (first : Int) gr gx kd a (.slice (some ad) xs.length cx) xs))
    case atStart => exact ⟨0, left, rfl, ⟨by omega⟩, ⟨by rw [List.drop_zero]; exact HL2.out⟩, ⟨rfl⟩, HK⟩
    case round =>
     (clear HK HQ);(obtain ⟨j, lf, rfl, HQ, HM, HLL, HK⟩ := hrel)
     by_cases hlt : j < xs.length
     ·(have hlt2 : (j : Int) < (xs.length : Int) := by omega);(have hj0 : (0 : Int) ≤ (j : Int) := by omega);(obtain ⟨ad2, ea2, hrd⟩ := Kd.at_int (Kd.R_reads' HK.out.xr).2.2 (j : Int) hj0 hlt2);(cases ea2);(have hm := HM.out);(rw [List.drop_eq_getElem_cons hlt] at hm);(have hrn := HAL.out xs[j] (List.getElem_mem hlt));(have er : rd xs (j : Int) = xs[j] := by simp [rd, hlt]);(rw [er, Int.toNat_natCast] at hrd);(obtain ⟨r, hr⟩ : ∃ r : Nat, xs[j] = (r : Int) := ⟨(xs[j]).toNat, by omega⟩);(rw [hr] at hrn hrd hm);(have hrm2 : (r : Int) < (left.length : Int) := hrn.2);(have hr0' : (0 : Int) ≤ (r : Int) := by omega);(obtain ⟨hrr, hrf⟩ := Kd.R_celln (0 : Int) HK.out.dl.left (r : Int) hr0' hrm2);(have erd : rdOf (0 : Int) lf (r : Int) = rd lf (r : Int) := rfl);(rw [erd, Int.toNat_natCast] at hrr);(rw [Int.toNat_natCast] at hrf);(obtain ⟨y, hy⟩ : ∃ y, rd lf (r : Int) = y := ⟨_, rfl⟩);(simp only [dcPour] at hm);(rw [hy, Int.toNat_natCast] at hm);(rw [hy] at hrr);(have HM3 := Aside0.mk hm);(have h4 := HK.out.dl.g4);(have hg2 : wr.cell? ⟨gx, 2, none⟩ = some (.int .i64 a) := (blk_cell HK.out.xb.2 2).trans rfl);(have hput := HK.out.put (r : Int) (wrap64 (y - a)));(rw [Int.toNat_natCast] at hput);(have HK2 := Aside0.mk (hput.move (W1 := (wr.setCell ⟨gl, r, none⟩ (.int .i64 (wrap64 (y - a)))).drew) (below_drew (Below.refl _ _))));(have HLL2 : Aside0 ((lf.set r (wrap64 (y - a))).length = left.length) := ⟨by rw [List.length_set]; exact HLL.out⟩);(clear hrn hm hr er erd hy hlt HM hput)
      go_wp2_with fail
      go_region
      all_goals (go_wp2_with fail)
      obtain ⟨hk1, hk2⟩ := HQ.out
      go_roundg (gk - 1)
      case measure => omega
      case rel => exact ⟨j + 1, _, dc_succ (by have h_ := HXL.out; omega), ⟨by omega⟩, HM3, HLL2, HK2⟩
     ·(have hge : ¬ ((j : Int) < (xs.length : Int)) := by omega);(have hm := HM.out);(rw [List.drop_of_length_le (by omega)] at hm);(have hm2 : lf = left2 := hm);(subst hm2);(have hgk : wr.cell? ⟨gx, 0, none⟩ = some (.int .u8 kd) := (blk_cell HK.out.xb.2 0).trans rfl);(have hg2 : wr.cell? ⟨gx, 2, none⟩ = some (.int .i64 a) := (blk_cell HK.out.xb.2 2).trans rfl);(have h5 := HK.out.dl.g5);(have hf5 := HK.out.dl.f5);(clear hm HM hlt)
      go_upto_block 4 with (fail)
      go_cut [] (fun wc => Aside0 (Dk 58 2 22 3 36 own own2 w0 w wc gw (.int .i64 n) (.int .i64 s) (.int .i64 t) (.slice A3 l.length c3) (.slice (some ⟨gl, 0, none⟩) left.length cl) lf value2 gt m ts3 (first : Int) gr gx kd a (.slice (some ad) xs.length cx) xs))
      case first =>
       (have hv := HV2.out);(unfold dcVal at hv)
       by_cases c1 : kd = 112
       ·(rw [if_pos c1] at hv);(have hq1 : (kd == 112) = true := by simp [c1]);(have hs1 : IntKind.i64.wrap (value - a) = value2 := by rw [← hv, IntKind.wrap_i64]; unfold wrap64; rfl);(clear hv c1)
        go_wp2_with fail
        go_region
        all_goals (go_wp2_with fail)
        all_goals go_meet
        case rel =>
         (have h_ := (HK.out.setValue value2).move (W1 := (wr.setCell ⟨gw, 5, none⟩ (.int .i64 value2)).drew) (below_drew (Below.refl _ _)));(exact ⟨h_⟩)
       ·(rw [if_neg c1] at hv);(have hq1 : (kd == 112) = false := by simp [c1])
        by_cases c2 : kd = 98
        ·(rw [if_pos c2] at hv);(have hq2 : (kd == 98) = true := by simp [c2]);(have hs1 : IntKind.i64.wrap (value + a) = value2 := by rw [← hv, IntKind.wrap_i64]; unfold wrap64; rfl);(clear hv c1 c2)
         go_wp2_with fail
         go_region
         all_goals (go_wp2_with fail)
         all_goals go_meet
         case rel =>
          (have h_ := (HK.out.setValue value2).move (W1 := (wr.setCell ⟨gw, 5, none⟩ (.int .i64 value2)).drew) (below_drew (Below.refl _ _)));(exact ⟨h_⟩)
        ·(rw [if_neg c2] at hv);(have hq2 : (kd == 98) = false := by simp [c2]);(clear c1 c2);(subst hv)
         go_wp2_with fail
         go_meet
         case rel => exact HK
      case rest =>
       (clear hgk hg2 h5 hf5 HK);(have HK := hcut);(have hgk : wc.cell? ⟨gx, 0, none⟩ = some (.int .u8 kd) := (blk_cell HK.out.xb.2 0).trans rfl);(have hg1 : wc.cell? ⟨gx, 1, none⟩ = some (.slice (some ad) xs.length cx) := (blk_cell HK.out.xb.2 1).trans rfl);(have hg2 : wc.cell? ⟨gx, 2, none⟩ = some (.int .i64 a) := (blk_cell HK.out.xb.2 2).trans rfl);(have hr0 : wc.cell? ⟨gr, 0, none⟩ = some (.int .u8 0) := (blk_cell HK.out.rb.2 0).trans rfl);(have hr1 : wc.cell? ⟨gr, 1, none⟩ = some (.slice none 0 0) := (blk_cell HK.out.rb.2 1).trans rfl);(have hr2 : wc.cell? ⟨gr, 2, none⟩ = some (.int .i64 0) := (blk_cell HK.out.rb.2 2).trans rfl);(have hf0 : wc.frozen? ⟨gr, 0, none⟩ = false := blk_frozen HK.out.rb.2 0);(have hf1 : wc.frozen? ⟨gr, 1, none⟩ = false := blk_frozen HK.out.rb.2 1);(have hf2 : wc.frozen? ⟨gr, 2, none⟩ = false := blk_frozen HK.out.rb.2 2)
       go_wp2_with fail
       (obtain ⟨hb9, hd9, hs9, hr9⟩ := HK.out.ret);(refine bodyPost_ret (results_cell_row rfl _ _ gr 36 #[.int .u8 kd, .slice (some ad) xs.length cx, .int .i64 a] (0, 0) _ rfl hb9 Try.underlying36 rfl (by kernel_rfl)) rfl ?_);(exact ⟨_, rfl, _, hd9, by rw [HLL.out]; exact HW5.out, HLL.out, hs9.1, hs9.2, hr9⟩)
end Go.Proofs.Ytnjdjnoncoeffaa.PDecompTwice
