/- For the law DecompTwice, for every input: printed by a program (wip/myprint), contracts by hand where it says MANUAL. -/
-- slim
import Derived.Test.YtnjdjnoncoeffaaPDecompTwicex0
import Derived.Test.YtnjdjnoncoeffaaPDecompTwicex10
import Derived.Test.YtnjdjnoncoeffaaPDecompTwicex12
import Derived.StillTailTactics
namespace Go.Proofs.Ytnjdjnoncoeffaa.PDecompTwice
open Go.RowKit Go.Proofs.YtnjdjnoncoeffaaW.PrintWords Go.Proofs.YtnjdjnoncoeffaaW.PrintLast Go.Proofs.YtnjdjnoncoeffaaW.PrintMore
attribute [local go_sem] max2_int min2_int max_two min_two max_three min_three max_four min_four
set_option linter.unusedVariables false
set_option linter.unusedSimpArgs false
/-! ### decomp_walker_next: function 33 -/
-- MANUAL: this contract was written by hand.
open Go.Proofs.YtnjdjnoncoeffaaW.Mine
/-- Has an arc an amount left? -/
def dcHas (left : List Int) (r : Int) : Bool := decide (0 < rd left r)
set_option maxHeartbeats 8000000 in
set_option maxRecDepth 100000 in
theorem dcNext_calls {own : Nat → Nat} {w0 w : World} {gw : Nat} {c0 c1 c2 c3 vl : Value} {left : List Int} {value : Int} {gt m : Nat} {ts : List (List Int)} {first : Int} (v : Nat) (hv : v < m) (x : List Int) (hx : ts[v]? = some x) (hxl : x.length ≤ 2000000)
  (hxi : ∀ r ∈ x, 0 ≤ r ∧ r < (left.length : Int)) (r : Int) (rs : List Int) (hd : x.drop (x.findIdx (dcHas left)) = r :: rs) (h : Dl 58 2 22 own w0 w gw c0 c1 c2 c3 vl left value gt m ts first) :
  Calls Try.prog 33 #[.pointer (some ⟨gw, 0, none⟩), .int .i64 (v : Int)] w fun e w' => e = .returned (.int .i64 r) ∧ Dl 58 2 22 own w0 w' gw c0 c1 c2 c3 vl left value gt m (ts.set v (r :: rs)) first ∧ Stay own own DlT w w' ∧ w.heap.size ≤ w'.heap.size := by
 have hu98 := Try.underlying58
 have hmf : ∀ (fn : Fn) (first cap : Array Value) (w : World), (Instr.makeFunc fn first cap).run Try.prog w = .ok (.func fn first cap) w := fun _ _ _ _ => rfl
 have HP := Aside0.mk h
 have HX := Aside0.mk hx
 have HXL := Aside0.mk hxl
 have HXI := Aside0.mk hxi
 have HD := Aside0.mk hd
 have hv2 : (v : Int) < (m : Int) := by omega
 have hv0 : (0 : Int) ≤ (v : Int) := by omega
 clear h hx hxl hxi hd hv
 go_enter Try.func33, Try.ntmps33
 have hgt : gt < w.heap.size := by
  obtain ⟨_, _, cells_, hc_, _⟩ := HP.out.tv
  exact blk_lt hc_
 have HGT := Aside0.mk hgt
 clear hgt
 go_wp2_with ((with_reducible refine gate_dst (N := 2) rfl ?_); refine box_event ?hg (N := 2) ?hd (cs := #[.pointer (some ⟨gw, 0, none⟩)]) (t := 54) ?hr ?_; (case hd => rfl); (case hg => rfl); (case hr => first | (go_simp; done) | (go_simp; rfl)); intro gb hgb w1 hbox hb; have BN1 := Aside0.mk hbox; have HGB : Aside0 (gb ≠ gt) := ⟨by have h_ := HGT.out; omega⟩; have HP1 := Aside0.mk (HP.out.move hb); have HS1 : Aside0 (Stay own own DlT w w1 ∧ w.heap.size ≤ w1.heap.size) := ⟨Stay.below hb, below_size hb⟩; clear hbox hgb hb HP HGT)
 have hcb : w1.cell? ⟨gb, 0, none⟩ = some (.pointer (some ⟨gw, 0, none⟩)) := (blk_cell BN1.out 0).trans rfl
 have h6 := HP1.out.g6
 obtain ⟨Ax, cx, hxc, hxf, hxl, hxv⟩ := HP1.out.tv.at HX.out
 obtain ⟨k, hk⟩ : ∃ k, x.findIdx (dcHas left) = k := ⟨_, rfl⟩
 have hd := HD.out
 rw [hk] at hd
 have hkl : k < x.length := by
  apply Classical.byContradiction
  intro hn
  rw [List.drop_of_length_le (by omega)] at hd
  cases hd
 obtain ⟨ad, ea, hr0_⟩ := hxv.read (i := 0) (by omega)
 subst ea
 have HXLL := Aside0.mk hxl
 have HXV := Aside0.mk hxv
 have HKL := Aside0.mk hkl
 have HD2 := Aside0.mk hd
 have HKK := Aside0.mk hk
 have hk1 : (k : Int) ≤ (x.length : Int) := by omega
 have hk0 : (0 : Int) ≤ (k : Int) := by omega
 have hkc : (x.length : Int) ≤ (cx : Int) := by omega
 have hne : ¬ cx = k := by omega
 have hRx : Kd.C (Kd.int .i64) w1.drew (some ad) x.length x := Kd.C_drew (Kd.F_now HXV.out)
 have HRX := Aside0.mk hRx
 have HPD := Aside0.mk (HP1.out.move (W1 := w1.drew) (below_drew (Below.refl _ _)))
 have BND := Aside0.mk (blk_drew BN1.out)
 have hcl : ∀ q ∈ x, Calls Try.prog 37 #[.int .i64 q, .pointer (some ⟨gb, 0, none⟩)] w1.drew fun e w' => e = .returned (.bool (dcHas left q)) ∧ w1.drew = w' := fun q hq => by
  obtain ⟨q', rfl⟩ : ∃ q' : Nat, q = (q' : Int) := ⟨q.toNat, by have h_ := HXI.out q hq; omega⟩
  exact dcHas_calls q' (by have h_ := HXI.out _ hq; omega) ((blk_cell BND.out 0).trans rfl) HPD.out
 have HCL := Aside0.mk hcl
 clear hRx hcl hr0_ hkl hd hk hxl hxv
 go_still_tail 23, (by kernel_rfl)
 still_call ((dcPlaceH_calls (dcHas left) HRX.out HXL.out HCL.out).mono (by rintro e w' ⟨rfl, rfl⟩; exact ⟨rfl, rfl⟩))
 rw [HKK.out]
 repeat still_step
 refine wpStill_nil ?_
 have hxcd : w1.drew.cell? ⟨gt, v, none⟩ = some (.slice (some ad) x.length cx) := hxc
 have hxfd : w1.drew.frozen? ⟨gt, v, none⟩ = false := hxf
 change wpList _ _ _ _ _ w1.drew
 have HXVD := Aside0.mk (HXV.out.stay (T := fun _ => False) (Stay.below (below_drew (Below.refl w1.heap.size w1))) id)
 have HSD : Aside0 (Stay own own DlT w w1.drew ∧ w.heap.size ≤ w1.drew.heap.size) := ⟨Stay.trans HS1.out.1 HS1.out.2 (Stay.below (below_drew (Below.refl w1.heap.size w1))), HS1.out.2⟩
 clear hcb h6 hxc hxf HP1 HRX HCL BN1 HXV HS1
 generalize w1.drew = w2 at *
 have hpop := HPD.out.pop (k := k) HX.out (by have h_ := HKL.out; omega) HXLL.out HXVD.out
 rw [if_neg hne, HD2.out] at hpop
 have hbf : (w2.setCell ⟨gt, v, none⟩ (.slice (Option.map (fun x_ => Addr.add x_ k) (some ad)) (x.length - k) (cx - k))).heap[gb]? = some (.cells #[.pointer (some ⟨gw, 0, none⟩)] 54 (0, 0)) := blk_far BND.out HGB.out _
 have HPO := Aside0.mk hpop
 have HBF := Aside0.mk hbf
 clear hpop hbf
 go_wp2_with ((with_reducible refine gate_store (t := 22) (p := 27) rfl ?_); refine store_event (t := 22) (p := 27) (v := ?va) (w1 := (w2.setCell ⟨gt, v, none⟩ (.slice (Option.map (fun x_ => Addr.add x_ k) (some ad)) (x.length - k) (cx - k)))) ?hg ?ho ?hn ?hr ?_; (case ho => rfl); (case hg => rfl); (case hn => rfl); (case hr => first | (go_simp; done) | (go_simp; rfl)); intro w7 hw; obtain ⟨hp7, hs7⟩ := HPO.out; have hz7 : w2.heap.size ≤ w7.heap.size := (by rw [hw]; exact dc_size _ _); have hb7 := HBF.out; rw [← hw] at hp7 hs7 hb7; clear hw; have HP7 := Aside0.mk hp7; have HS7 : Aside0 (Stay own own DlT w w7 ∧ w.heap.size ≤ w7.heap.size) := ⟨Stay.trans HSD.out.1 HSD.out.2 hs7, Nat.le_trans HSD.out.2 hz7⟩; have hcb : w7.cell? ⟨gb, 0, none⟩ = some (.pointer (some ⟨gw, 0, none⟩)) := (blk_cell hb7 0).trans rfl; clear hp7 hs7 hz7 hb7 HPO HBF HPD HSD HXVD BND hxcd hxfd; have h6 := HP7.out.g6; have hel : (ts.set v (r :: rs))[v]? = some (r :: rs) := List.getElem?_set_self (List.getElem?_eq_some_iff.1 HX.out).1; obtain ⟨Ay, cy, hyc, hyf, hyl, hyv⟩ := HP7.out.tv.at hel; obtain ⟨g5, hg5, hrd⟩ := hyv.read (i := 0) (by simp); subst hg5; rw [Addr.add_zero'] at hrd; have hrd : w7.cell? g5 = some (.int .i64 r) := hrd; have hcl : (List.length (r :: rs)) = rs.length + 1 := rfl; rw [hcl] at hyc; have hlo : (1 : Int) ≤ ((rs.length + 1 : Nat) : Int) := (by omega); clear hyl hyv hel hyf)
 go_ret
 exact ⟨rfl, HP7.out, HS7.out.1, HS7.out.2⟩
end Go.Proofs.Ytnjdjnoncoeffaa.PDecompTwice
