/- For the law PlainFills, for every input: printed by a program (wip/myprint), contracts by hand where it says MANUAL. -/
-- slim
import Derived.Test.YtdiaedecnfbgdaaPPlainFillsx0
import Derived.Test.YtdiaedecnfbgdaaPPlainFillsx7
import Derived.Test.YtdiaedecnfbgdaaPPlainFillsx8
import Derived.Deep.RegionLaw
namespace Go.Proofs.Ytdiaedecnfbgdaa.PPlainFills
open Go.RowKit Go.Proofs.YtdiaedecnfbgdaaW.PrintWords Go.Proofs.YtdiaedecnfbgdaaW.PrintLast Go.Proofs.YtdiaedecnfbgdaaW.PrintMore
attribute [local go_sem] max2_int min2_int max_two min_two max_three min_three max_four min_four
set_option linter.unusedVariables false
set_option linter.unusedSimpArgs false
/-! ### plain_of: function 45 -/
-- MANUAL: this contract was written by hand.
open Go.Proofs.YtdiaedecnfbgdaaW.Mine
/-- Tracks by the node at which they begin. -/
def plRows (l : List S30) (m : Nat) (leads : List Int) : List (List Int) := leads.foldl (trAdd (lvFrom l)) (List.replicate m [])
theorem plFold_len (fr : Int → Int) : ∀ (xs : List Int) (ts : List (List Int)), (xs.foldl (trAdd fr) ts).length = ts.length
 | [], _ => rfl
 | x :: xs, ts => by rw [List.foldl_cons, plFold_len fr xs, trAdd, List.length_set]
theorem plRows_len (l : List S30) (m : Nat) (leads : List Int) : (plRows l m leads).length = m := by rw [plRows, plFold_len, List.length_replicate]
theorem plAdd_mem {fr : Int → Int} {Q : Int → Prop} {c : Nat} {ts : List (List Int)} {r : Int} (h : ∀ (v : Nat) (x : List Int), ts[v]? = some x → x.length ≤ c ∧ ∀ q ∈ x, Q q) (hr : Q r) : ∀ (v : Nat) (x : List Int), (trAdd fr ts r)[v]? = some x → x.length ≤ c + 1 ∧ ∀ q ∈ x, Q q := fun v x hx => by
 unfold trAdd at hx
 by_cases e : v = (fr r).toNat
 ·subst e
  obtain ⟨hl, hx2⟩ := List.getElem?_eq_some_iff.1 hx
  rw [List.length_set] at hl
  rw [List.getElem_set_self] at hx2
  subst hx2
  have h1 := h _ _ (List.getElem?_eq_getElem hl)
  have e2 : ts.getD (fr r).toNat [] = ts[(fr r).toNat] := by rw [List.getD_eq_getElem?_getD, List.getElem?_eq_getElem hl]; rfl
  rw [e2]
  refine ⟨by rw [List.length_append, List.length_singleton]; omega, fun q hq => ?_⟩
  rcases List.mem_append.1 hq with hq | hq
  ·exact h1.2 q hq
  ·obtain rfl := List.mem_singleton.1 hq
   exact hr
 ·rw [List.getElem?_set_ne (fun e2 => e e2.symm)] at hx
  have h1 := h v x hx
  exact ⟨by omega, h1.2⟩
theorem plFold_mem {fr : Int → Int} {Q : Int → Prop} : ∀ (xs : List Int) (c : Nat) (ts : List (List Int)), (∀ (v : Nat) (x : List Int), ts[v]? = some x → x.length ≤ c ∧ ∀ q ∈ x, Q q) → (∀ q ∈ xs, Q q) → ∀ (v : Nat) (x : List Int), (xs.foldl (trAdd fr) ts)[v]? = some x → x.length ≤ c + xs.length ∧ ∀ q ∈ x, Q q
 | [], c, ts, h, _ => fun v x hx => h v x hx
 | r :: xs, c, ts, h, hq => fun v x hx => by
  have h1 := plFold_mem xs (c + 1) (trAdd fr ts r) (plAdd_mem h (hq r List.mem_cons_self)) (fun q hq2 => hq q (List.mem_cons_of_mem _ hq2)) v x hx
  exact ⟨by rw [List.length_cons]; omega, h1.2⟩
theorem plRows_mem {l : List S30} {m : Nat} {Q : Int → Prop} {leads : List Int} (hq : ∀ q ∈ leads, Q q) : ∀ (v : Nat) (x : List Int), (plRows l m leads)[v]? = some x → x.length ≤ leads.length ∧ ∀ q ∈ x, Q q := fun v x hx => by
 have h := plFold_mem (fr := lvFrom l) leads 0 (List.replicate m []) (fun v x hx => by
  obtain ⟨_, hx2⟩ := List.getElem?_eq_some_iff.1 hx
  simp at hx2
  subst hx2
  exact ⟨by simp, fun q hq => by cases hq⟩) hq v x hx
 exact ⟨by omega, h.2⟩
theorem plStart {tw te ti tl : Nat} {w0 w1 : World} {vr : Value} {room : List Int} {m : Nat} {cells : Array Value} (hB : Below w0.heap.size w0 w1) (hr : (Kd.int .i64).R te w1 w0.heap.size (fun _ => True) vr room) :
  Pk tw te ti tl (own0 (w1.heap.size + 1) w1.heap.size) w0 ((w1.alloc (.cells (madeCells #[.slice none 0 0] m) tl)).alloc (.cells cells tw)) (w1.heap.size + 1) cells vr room w1.heap.size (List.replicate m []) := by
 have hs : (w1.alloc (.cells (madeCells #[.slice none 0 0] m) tl)).heap.size = w1.heap.size + 1 := by simp
 have e6 : own0 (w1.heap.size + 1) w1.heap.size (w1.heap.size + 1) = 6 := if_pos rfl
 have e7 : own0 (w1.heap.size + 1) w1.heap.size w1.heap.size = 7 := by unfold own0; rw [if_neg (by omega), if_neg (by omega), if_pos rfl]
 have hA : Below w1.heap.size w1 (w1.alloc (.cells (madeCells #[.slice none 0 0] m) tl)) := below_alloc (Below.refl _ _) _
 have hC : Below (w1.alloc (.cells (madeCells #[.slice none 0 0] m) tl)).heap.size (w1.alloc (.cells (madeCells #[.slice none 0 0] m) tl)) ((w1.alloc (.cells (madeCells #[.slice none 0 0] m) tl)).alloc (.cells cells tw)) := below_alloc (Below.refl _ _) _
 have h8 : Rw (own0 (w1.heap.size + 1) w1.heap.size) 8 te w1 w0.heap.size vr room := Kd.R_mono (Kd.R_bound hr) (fun k hk => by
  have h2 := hk.2.2.1
  unfold own0
  rw [if_neg (by omega), if_pos h2])
 have hb0 := below_size hB
 refine ⟨below_step (below_step hB hA) hC, ⟨e6, by omega, ?_⟩, (h8.stay (T := fun _ => False) (Stay.below hA) id).stay (T := fun _ => False) (Stay.below hC) id, (Tr.made e7 (below_size hB)).stay (T := fun _ => False) (Stay.below hC) id (fun _ => id)⟩
 have := blk_new (w1.alloc (.cells (madeCells #[.slice none 0 0] m) tl)) (.cells cells tw)
 rw [hs] at this
 exact this
set_option maxHeartbeats 8000000 in
set_option maxRecDepth 100000 in
theorem plOf_calls {w0 w : World} {n s t : Int} {A3 : Option Addr} {c3 : Nat} {l : List (S30)} {vr : Value} {room leads : List Int} {least : Int} {m : Nat} {A9 : Option Addr} {c9 : Nat}
  (HR : Kd.C k30 w0 A3 l.length l) (HC : l.length ≤ c3) (hf : lvFit n s l room = true) (hm : (m : Int) = n + 1) (hl : ∀ r ∈ leads, 0 ≤ r ∧ r < (room.length : Int)) (hll : leads.length ≤ 1000000)
  (hB : Below w0.heap.size w0 w) (hr : (Kd.int .i64).R 2 w w0.heap.size (fun _ => True) vr room) (hL : (Kd.int .i64).R 3 w w0.heap.size (fun _ => True) (.slice A9 leads.length c9) leads) :
  Calls Try.prog 45 #[.agg #[.int .i64 n, .int .i64 s, .int .i64 t, .slice A3 l.length c3], vr, .slice A9 leads.length c9, .int .i64 least] w fun e w' => ∃ gw : Nat, e = .returned (.pointer (some ⟨gw, 0, none⟩)) ∧ ∃ (gt : Nat) (own : Nat → Nat), Pl 98 2 3 22 own w0 w' gw (.int .i64 n) (.int .i64 s) (.int .i64 t) (.slice A3 l.length c3) vr room least gt m (plRows l m leads) (.slice none 0 0) [] := by
 have hu26 := Try.underlying26
 have hu28 := Try.underlying30
 have hu98 := Try.underlying98
 obtain ⟨Ar, cr, er⟩ := Kd.R_slice hr
 subst er
 have hf2 := hf
 simp only [lvFit, Bool.and_eq_true, decide_eq_true_eq] at hf2
 obtain ⟨⟨f0, f1, f2, f3, f4, f5⟩, -⟩ := hf2
 obtain ⟨i0, hi, hz0, hz1, hz2⟩ := info_parts info22
 have hmk : ∀ W : World, (Instr.makeSlice 80 (.int .i64 (m : Int)) (.int .i64 (m : Int))).run Try.prog W = .ok (.slice (some ⟨W.heap.size, 0, none⟩) m m) (W.alloc (.cells (madeCells #[.slice none 0 0] m) 22)) := fun W => by
  have hr := run_make (P := Try.prog) W 80 22 i0 (.slice none 0 0) Try.underlying80 hi hz0 .i64 .i64 (m : Int) (m : Int) (by omega) (by omega) (by rw [hz2]; omega) (by omega)
  simp only [Int.toNat_natCast] at hr
  rw [hz1, Nat.mul_one] at hr
  exact hr
 have HMK := Aside0.mk hmk
 have hwm : IntKind.i64.wrap (n + 1) = (m : Int) := by rw [IntKind.wrap_i64]; omega
 have hwm2 : wrap64 (n + 1) = (m : Int) := by unfold wrap64; omega
 have HFF := Aside0.mk hf
 have HRR := Aside0.mk HR
 have HCC := Aside0.mk HC
 have HB := Aside0.mk hB
 have HRM := Aside0.mk hr
 have HL := Aside0.mk hL
 have HLL := Aside0.mk hl
 have HLC := Aside0.mk hll
 have HMM : Aside0 ((m : Int) = n + 1 ∧ m ≤ 1000001 ∧ room.length = 2 * l.length ∧ l.length ≤ 2000) := ⟨⟨hm, by omega, f5, f4⟩⟩
 clear hf HR HC hB hr hL hl hll f0 f1 f2 f3 f4 f5 hm hi hz0 hz1 hz2
 go_enter Try.func45, Try.ntmps45
 go_wp2_with ((with_reducible refine gate_dst (N := 4) rfl ?_); refine box_event ?hg (N := 4) ?hd (cs := #[.int .i64 n, .int .i64 s, .int .i64 t, .slice A3 l.length c3]) (t := 26) ?hr ?_; (case hd => rfl); (case hg => rfl); (case hr => first | (go_simp; done) | (go_simp; rfl)); intro gn hg w1 hbox hb; have HB1 := Aside0.mk hb; have BN := Aside0.mk hbox; clear hb hbox hg; have hcz0 : w1.cell? ⟨gn, 0, none⟩ = some (.int .i64 n) := (blk_cell BN.out 0).trans rfl; have hcz1 : w1.cell? ⟨gn, 1, none⟩ = some (.int .i64 s) := (blk_cell BN.out 1).trans rfl; have hcz2 : w1.cell? ⟨gn, 2, none⟩ = some (.int .i64 t) := (blk_cell BN.out 2).trans rfl; have hcz3 : w1.cell? ⟨gn, 3, none⟩ = some (.slice A3 l.length c3) := (blk_cell BN.out 3).trans rfl)
 have hmk := HMK.out
 have ha0 : ∀ o : Obj, (w1.alloc o).cell? ⟨gn, 0, none⟩ = some (.int .i64 n) := fun o => (blk_cell (blk_alloc BN.out o) 0).trans rfl
 have ha1 : ∀ o : Obj, (w1.alloc o).cell? ⟨gn, 1, none⟩ = some (.int .i64 s) := fun o => (blk_cell (blk_alloc BN.out o) 1).trans rfl
 have ha2 : ∀ o : Obj, (w1.alloc o).cell? ⟨gn, 2, none⟩ = some (.int .i64 t) := fun o => (blk_cell (blk_alloc BN.out o) 2).trans rfl
 have ha3 : ∀ o : Obj, (w1.alloc o).cell? ⟨gn, 3, none⟩ = some (.slice A3 l.length c3) := fun o => (blk_cell (blk_alloc BN.out o) 3).trans rfl
 try simp only [Act.put, List.setIfInBounds_toArray, List.set_cons_zero, List.set_cons_succ]
 go_region
 have hB1 : Below w0.heap.size w0 w1 := below_step HB.out HB1.out
 have hrm := Kd.R_below HRM.out HB1.out
 have hlm := Kd.R_below HL.out HB1.out
 have hpk := plStart (tw := 98) (ti := 3) (tl := 22) (m := m) (cells := #[.int .i64 n, .int .i64 s, .int .i64 t, .slice A3 l.length c3, .slice Ar room.length cr, .int .i64 least, .slice (some ⟨w1.heap.size, 0, none⟩) m m, .slice none 0 0]) hB1 hrm
 have hgn : gn < w1.heap.size := blk_lt BN.out
 have hAA : Below w1.heap.size w1 ((w1.alloc (.cells (madeCells #[.slice none 0 0] m) 22)).alloc (.cells #[.int .i64 n, .int .i64 s, .int .i64 t, .slice A3 l.length c3, .slice Ar room.length cr, .int .i64 least, .slice (some ⟨w1.heap.size, 0, none⟩) m m, .slice none 0 0] 98)) := below_alloc (below_alloc (Below.refl _ _) _) _
 have hDD : Below ((w1.alloc (.cells (madeCells #[.slice none 0 0] m) 22)).alloc (.cells #[.int .i64 n, .int .i64 s, .int .i64 t, .slice A3 l.length c3, .slice Ar room.length cr, .int .i64 least, .slice (some ⟨w1.heap.size, 0, none⟩) m m, .slice none 0 0] 98)).heap.size ((w1.alloc (.cells (madeCells #[.slice none 0 0] m) 22)).alloc (.cells #[.int .i64 n, .int .i64 s, .int .i64 t, .slice A3 l.length c3, .slice Ar room.length cr, .int .i64 least, .slice (some ⟨w1.heap.size, 0, none⟩) m m, .slice none 0 0] 98)) ((w1.alloc (.cells (madeCells #[.slice none 0 0] m) 22)).alloc (.cells #[.int .i64 n, .int .i64 s, .int .i64 t, .slice A3 l.length c3, .slice Ar room.length cr, .int .i64 least, .slice (some ⟨w1.heap.size, 0, none⟩) m m, .slice none 0 0] 98)).drew := below_drew (Below.refl _ _)
 have HPK := Aside0.mk (hpk.move hDD)
 have hAD := below_step hAA hDD
 have HGN : Aside0 (Bx (own0 (w1.heap.size + 1) w1.heap.size) 8 26 ((w1.alloc (.cells (madeCells #[.slice none 0 0] m) 22)).alloc (.cells #[.int .i64 n, .int .i64 s, .int .i64 t, .slice A3 l.length c3, .slice Ar room.length cr, .int .i64 least, .slice (some ⟨w1.heap.size, 0, none⟩) m m, .slice none 0 0] 98)).drew 0 gn #[.int .i64 n, .int .i64 s, .int .i64 t, .slice A3 l.length c3]) := ⟨by unfold own0; rw [if_neg (by omega), if_pos hgn], Nat.zero_le _, blk_below BN.out hAD⟩
 have HLD : Aside0 (Rw (own0 (w1.heap.size + 1) w1.heap.size) 8 3 ((w1.alloc (.cells (madeCells #[.slice none 0 0] m) 22)).alloc (.cells #[.int .i64 n, .int .i64 s, .int .i64 t, .slice A3 l.length c3, .slice Ar room.length cr, .int .i64 least, .slice (some ⟨w1.heap.size, 0, none⟩) m m, .slice none 0 0] 98)).drew w0.heap.size (.slice A9 leads.length c9) leads) := ⟨Rw.stay (T := fun _ => False) (Kd.R_mono (Kd.R_bound hlm) (fun k hk => by have h2 := hk.2.2.1; unfold own0; rw [if_neg (by omega), if_pos h2])) (Stay.below hAD) id⟩
 clear hB1 hrm hlm hpk hgn hAA hDD hAD ha0 ha1 ha2 ha3 hcz0 hcz1 hcz2 hcz3 hmk HMK hwm hwm2 BN HB1 HRM HL
 generalize own0 (w1.heap.size + 1) w1.heap.size = own at *
 generalize ((w1.alloc (.cells (madeCells #[.slice none 0 0] m) 22)).alloc (.cells #[.int .i64 n, .int .i64 s, .int .i64 t, .slice A3 l.length c3, .slice Ar room.length cr, .int .i64 least, .slice (some ⟨w1.heap.size, 0, none⟩) m m, .slice none 0 0] 98)).drew = w3 at *
 generalize hgt : w1.heap.size = gt at *
 generalize hgw : gt + 1 = gw at *
 clear hgt hgw
 go_wp2_with fail
 go_loopg [25] (leads.length + 1) (fun kq v25 wr => ∃ (j : Nat) (own : Nat → Nat), v25 = .int .i64 j ∧ Aside0 (j + kq = leads.length + 1 ∧ 0 < kq) ∧ Aside0 (Pk 98 2 3 22 own w0 wr gw #[.int .i64 n, .int .i64 s, .int .i64 t, .slice A3 l.length c3, .slice Ar room.length cr, .int .i64 least, .slice (some ⟨gt, 0, none⟩) m m, .slice none 0 0] (.slice Ar room.length cr) room gt (plRows l m (leads.take j))) ∧ Aside0 (Bx own 8 26 wr 0 gn #[.int .i64 n, .int .i64 s, .int .i64 t, .slice A3 l.length c3]) ∧ Aside0 (Rw own 8 3 wr w0.heap.size (.slice A9 leads.length c9) leads))
 case atStart => exact ⟨0, own, rfl, ⟨by omega⟩, HPK, HGN, HLD⟩
 case round =>
  clear HPK HGN HLD
  obtain ⟨j, own, rfl, HK, HP, HN, HL⟩ := hrel
  by_cases hlt : j < leads.length
  ·have hlt2 : (j : Int) < (leads.length : Int) := by omega
   (have hj0 : (0 : Int) ≤ (j : Int) := by omega);(have hrn := HLL.out leads[j] (List.getElem_mem hlt));(obtain ⟨g9, e9, hrd⟩ := HL.out.read hlt);(subst e9);(obtain ⟨r, hr⟩ : ∃ r : Nat, leads[j] = (r : Int) := ⟨(leads[j]).toNat, by omega⟩);(rw [hr] at hrn hrd);(have hM := HMM.out);(have hin := lvTo_in HFF.out (r := (r : Int)) hrn.1 hrn.2);(have HE := Aside0.mk (lvEnds (n := n) (s := s) (t := t) (r := (r : Int)) (l := l) hrn.1 (by omega) hM.2.2.2));(obtain ⟨v, hv⟩ : ∃ v : Nat, lvFrom l (r : Int) = (v : Int) := ⟨(lvFrom l (r : Int)).toNat, by omega⟩);(obtain ⟨z, hz⟩ : ∃ z, lvTo l (r : Int) = z := ⟨_, rfl⟩);(rw [hv, hz] at HE);(have hvm : v < m := by omega);(have hvm2 : (v : Int) < (m : Int) := by omega);(have hv0 : (0 : Int) ≤ (v : Int) := by omega);(have hel := List.getElem?_eq_getElem (l := plRows l m (leads.take j)) (i := v) (by rw [plRows_len]; exact hvm));(obtain ⟨x, hx⟩ : ∃ x, (plRows l m (leads.take j))[v]'(by rw [plRows_len]; exact hvm) = x := ⟨_, rfl⟩);(rw [hx] at hel);(have HX := Aside0.mk hel)
   have HXL : Aside0 (x.length ≤ 1000000) := ⟨by
    (have h1_ := (plRows_mem (Q := fun _ => True) (fun _ _ => trivial) v x hel).1);(rw [List.length_take] at h1_);(have h2_ := HLC.out)
    omega⟩
   have hadd : plRows l m (leads.take (j + 1)) = (plRows l m (leads.take j)).set v (x ++ [(r : Int)]) := by
    rw [List.take_succ_eq_append_getElem hlt, hr]
    show (leads.take j ++ [(r : Int)]).foldl (trAdd (lvFrom l)) (List.replicate m []) = _
    rw [List.foldl_append]
    show trAdd (lvFrom l) (plRows l m (leads.take j)) (r : Int) = _
    rw [trAdd, hv, Int.toNat_natCast, List.getD_eq_getElem?_getD, hel]
    rfl
   (have HADD := Aside0.mk hadd);(have hcz0 : wr.cell? ⟨gn, 0, none⟩ = some (.int .i64 n) := (blk_cell HN.out.2.2 0).trans rfl);(have hcz1 : wr.cell? ⟨gn, 1, none⟩ = some (.int .i64 s) := (blk_cell HN.out.2.2 1).trans rfl);(have hcz2 : wr.cell? ⟨gn, 2, none⟩ = some (.int .i64 t) := (blk_cell HN.out.2.2 2).trans rfl);(have hcz3 : wr.cell? ⟨gn, 3, none⟩ = some (.slice A3 l.length c3) := (blk_cell HN.out.2.2 3).trans rfl);(clear hrn hr hM hin hv hz hvm hel hx hadd hlt)
   go_wp2_with (go_at_call 49; refine (residual_Ends.calls 1 n s t A3 c3 l (r : Int) (v : Int) z _ ?s1 HCC.out HE.out).mono ?_; (case s1 => exact Kd.C_below HRR.out HP.out.below); rintro e w5 ⟨rfl, hb⟩; have HP5 := Aside0.mk (HP.out.move hb); have HN5 := Aside0.mk (HN.out.stay (T := fun _ => False) (Stay.below hb) id); have HL5 := Aside0.mk (HL.out.stay (T := fun _ => False) (Stay.below hb) id); clear hb HP HN HL hcz0 hcz1 hcz2 hcz3 hrd)
   (obtain ⟨Ax, cx, hxc, hxf, hxr⟩ := HP5.out.tr.at HX.out);(have HXC := Aside0.mk hxc);(have HXR := Aside0.mk hxr);(clear hxr);(have h6 : w5.cell? ⟨gw, 6, none⟩ = some (.slice (some ⟨gt, 0, none⟩) m m) := (blk_cell HP5.out.net.2.2 6).trans rfl);(have h6a : ∀ o : Obj, (w5.alloc o).cell? ⟨gw, 6, none⟩ = some (.slice (some ⟨gt, 0, none⟩) m m) := fun o => (blk_cell (blk_alloc HP5.out.net.2.2 o) 6).trans rfl);(have hxa : ∀ o : Obj, (w5.alloc o).cell? ⟨gt, v, none⟩ = some (.slice Ax x.length cx) := fun o => pw_cell_below (below_alloc (Below.refl _ _) o) HXC.out)
   go_region_law (first | (refine Kd.R_append_step (Kd.int .i64) (w0 := w0) (W := w5.drew) w0.heap.size (by rfl) (.tmp 46) (.tmp 48) 22 3 (.int .i64 0) 8 rfl Try.underlying22 info3 rfl (by decide) (by omega) (.slice Ax x.length cx) x (r : Int) [.int .i64 (r : Int)] (fun k_ => own k_ = 10 + v ∨ w5.heap.size ≤ k_) (fun _ => False) rfl rfl ?aP (fun _ hk => hk.elim) ?aF ?aO ?aB ?aS ?aL ?_; (case aP => exact rfl); (case aF => exact (fun _ h_ => .inr h_)); (case aO => exact Kd.R_drew HXR.out.open_); (case aB => exact below_drew HP5.out.below); (case aS => exact below_size (below_drew HP5.out.below)); (case aL => have h_ := HXL.out; omega); intro u7 w7 ho hb7 hg hat; obtain ⟨A7, c7, eu⟩ := Kd.R_slice ho; subst eu; have hg6 : w5.grownBy w7 (Value.slice Ax x.length cx).ownBlock := ⟨hg.os, hg.tape, hg.output, hg.size, hg.block⟩; have hh := HP5.out.tr.hold HXC.out (fun k_ e_ => HXR.out.1 k_ e_) hg6; obtain ⟨hc7, hf7⟩ := hh; have h67 : w7.cell? ⟨gw, 6, none⟩ = some (.slice (some ⟨gt, 0, none⟩) m m) := (blk_cell (blk_grown HP5.out.net.2.2 hg6 (fun e_ => by have h1_ := HXR.out.1 gw e_.symm; have h2_ := HP5.out.net.1; omega)) 6).trans rfl; have HO7 := Aside0.mk ho; have HB7 := Aside0.mk hb7; have HG7 := Aside0.mk hg6; clear ho hb7 hg hg6 hat))
   all_goals (
    (have hpush := Pk.push HP5.out HX.out HXR.out HG7.out HO7.out HB7.out);(have s1 : Stay own (more own w5 (10 + v)) (fun t_ => t_ = 10 + v) w5 w7 := Stay.grown HG7.out (fun k hk => HXR.out.1 k hk));(have s2 : Stay (more own w5 (10 + v)) (more own w5 (10 + v)) (fun t_ => t_ = 7) w7 (w7.setCell ⟨gt, v, none⟩ (.slice A7 (x ++ [(r : Int)]).length c7)) := Stay.set hpush.tr.1);(have hn7 := (HN5.out.stay s1 (by omega)).stay s2 (by decide));(have hl7 := (HL5.out.stay s1 (by omega)).stay s2 (by decide));(rw [← HADD.out] at hpush);(have elen : (x ++ [(r : Int)]).length = x.length + 1 := by simp);(rw [elen] at hpush hn7 hl7);(have HPU := Aside0.mk hpush);(have HN7 := Aside0.mk hn7);(have HL7 := Aside0.mk hl7);(clear hpush s1 s2 hn7 hl7 hc7 hf7 h67 h6 h6a hxa hxc hxf)
    go_wp2_with fail
    obtain ⟨hk1, hk2⟩ := HK.out
    go_roundg (gk - 1)
    case measure => omega
    case rel => exact ⟨j + 1, _, lv_succ (by have h_ := HLC.out; omega), ⟨by omega⟩, HPU, HN7, HL7⟩)
  ·have hge : ¬ ((j : Int) < (leads.length : Int)) := by omega
   (have hp := HP.out);(rw [List.take_of_length_le (by omega)] at hp);(have HP2 := Aside0.mk hp);(clear hp HP hlt)
   go_wp2_with fail
   go_ret
   exact ⟨gw, rfl, gt, own, HP2.out.below, HP2.out.net, HP2.out.room, HP2.out.tr.tv, Kd.R_nil _ _ _ _ _⟩
end Go.Proofs.Ytdiaedecnfbgdaa.PPlainFills
