/- Plain lists and numbers, for the law PlainBlocks: no program and no memory. -/
-- slimm
import Derived.Test.YtdiaedecnfbgdaaPPlainBlocksx0
import Derived.Test.YtdiaedecnfbgdaaPPlainBlocksx6
import Derived.Test.YtdiaedecnfbgdaaPPlainBlocksx7
import Derived.Test.YtdiaedecnfbgdaaPPlainBlocksx8
import Derived.Test.YtdiaedecnfbgdaaPPlainBlocksx10
import Derived.Test.YtdiaedecnfbgdaaPPlainBlocksx17
import Derived.Test.YtdiaedecnfbgdaaPPlainBlocksx25
import Derived.Test.YtdiaedecnfbgdaaPPlainBlocksx27
import Derived.Test.YtdiaedecnfbgdaaPPlainBlocksx29
import Derived.Test.YtdiaedecnfbgdaaPPlainBlocksx30
import Derived.Test.YtdiaedecnfbgdaaMPlainBlocksAll
set_option linter.unusedVariables false
namespace Go.Proofs.Ytdiaedecnfbgdaa.Pure
open Go.RowKit Go.Proofs.Ytdiaedecnfbgdaa.PPlainBlocks Go.Proofs.YtdiaedecnfbgdaaW.PrintWords Go.Proofs.YtdiaedecnfbgdaaW.PrintLast
theorem nodup_div : ∀ {w : List Int}, (w.map (· / 2)).Nodup → w.Nodup
 | [], _ => List.nodup_nil
 | a :: w, h => by
  rw [List.map_cons, List.nodup_cons] at h
  exact List.nodup_cons.2 ⟨fun hm => h.1 (List.mem_map.2 ⟨a, hm, rfl⟩), nodup_div h.2⟩
theorem most_big {room : List Int} {b : Int} : ∀ {w : List Int}, w ≠ [] → (∀ r ∈ w, rd room r < b) → plMost room w b = mostOf room w
 | [], h, _ => absurd rfl h
 | r :: w, _, h => by
  have h1 := h r List.mem_cons_self
  have e : rd (r :: w) 0 = r := rfl
  unfold mostOf
  rw [e, plMost, plMost, if_pos h1]
  split <;> rfl
section
variable {l : List S30} {L up f : List Int} {n s t x : Int}
theorem next_fit {g : List Int} (H : LL l L n up) (R : Right n s t l) (F : IsFlow n s t l g) (hL : L.length ≤ 1000000) : (lvFit n s l (roomOf l g) && (decide (L.length ≤ 1000000) && L.all fun r => decide (0 ≤ r ∧ r < ((roomOf l g).length : Int)))) = true := by
 have hlen : (roomOf l g).length = 2 * l.length := roomOf_len F.1.len
 have hR := R.len
 have hn2 := R.n2
 have hn5 := R.n500
 have hs1 := R.s1
 have hsn := R.sn
 have hfit : lvFit n s l (roomOf l g) = true := by
  simp only [lvFit, Bool.and_eq_true, decide_eq_true_eq, List.all_eq_true]
  refine ⟨⟨by omega, by omega, by omega, hsn, hR, hlen⟩, fun a ha => ?_⟩
  obtain ⟨g0, g1, g2, g3, _⟩ := R.arcs a ha
  omega
 rw [hfit, decide_eq_true hL, Bool.true_and, Bool.true_and]
 refine List.all_eq_true.2 (fun r h => decide_eq_true ?_)
 obtain ⟨a, b⟩ := (H.mem r h).1
 omega
theorem next_yes {g w : List Int} (H : LL l L n up) (R : Right n s t l) (F : IsFlow n s t l g) (hL : L.length ≤ 1000000) (hw : First l L t x (roomOf l g) s w) : Ev (fun k => plain_Next.f k n s t l g L x) (w, true) := by
 obtain ⟨b, w2, h1, h2, h3⟩ := next_first (least := x) (g := g) H R
 have hb : b = true := by
  cases b with
  | true => rfl
  | false => exact absurd hw.ways (h3 rfl).2
 subst hb
 have e := First.unique hw (h2 rfl)
 subst e
 unfold plain_Next.f
 refine Ev.bind (room_ev R F) ?_
 simp only [if_true]
 rw [next_fit H R F hL]
 refine ⟨(n.toNat + 1) * L.length + n.toNat + 1, fun k hk => ?_⟩
 obtain ⟨ts, e⟩ := h1 k (by omega)
 simp only [if_true, e, Option.bind_some]
theorem next_no {g : List Int} (H : LL l L n up) (R : Right n s t l) (F : IsFlow n s t l g) (hL : L.length ≤ 1000000) (hw : ¬ Ways l L t x (roomOf l g) s) : Ev (fun k => plain_Next.f k n s t l g L x) (([] : List Int), false) := by
 obtain ⟨b, w2, h1, h2, h3⟩ := next_first (least := x) (g := g) H R
 have hb : b = false := by
  cases b with
  | false => rfl
  | true => exact absurd (h2 rfl).ways hw
 subst hb
 unfold plain_Next.f
 refine Ev.bind (room_ev R F) ?_
 simp only [if_true]
 rw [next_fit H R F hL]
 refine ⟨(n.toNat + 1) * L.length + n.toNat + 1, fun k hk => ?_⟩
 obtain ⟨ts, e⟩ := h1 k (by omega)
 simp only [if_true, e, Option.bind_some, Bool.false_eq_true, if_false]
end
theorem blocks_min {x d sum n s t : Int} {l : List S30} {f g G L w wn room : List Int} {ws : List S61} {i : Nat} {m M : Int} {ok res : Bool} (hi : i < ws.length) (hw : rd_T61 ws (i : Int) = ⟨w, m⟩) (hwl : w.length ≤ 1000000) (hrng : ∀ r ∈ w, 0 ≤ r ∧ r < (room.length : Int))
  (hend : Ev (fun k => racewaylaw8_PlainBlocks.l1 k f x G ws d L g sum (i : Int) wn ok room M (w.length : Int) n s t l) res) (q : Nat) :
  ∀ (j : Nat) (a : Int), j + q = w.length → plMost room (w.drop j) a = M → Ev (fun k => racewaylaw8_PlainBlocks.l1 k f x G ws d L g sum (i : Int) wn ok room a (j : Int) n s t l) res := by
 induction q with
 | zero =>
  intro j a hj ha
  rw [List.drop_of_length_le (by omega)] at ha
  have ea : a = M := ha
  have ej : j = w.length := by omega
  subst ea
  subst ej
  exact hend
 | succ q ih =>
  intro j a hj ha
  have hjw : j < w.length := by omega
  obtain ⟨r, hr⟩ : ∃ r, w[j] = r := ⟨_, rfl⟩
  have hrd : rd w (j : Int) = r := by rw [rd_get hjw, hr]
  have hdj : w.drop j = r :: w.drop (j + 1) := by rw [← hr]; exact List.drop_eq_getElem_cons hjw
  obtain ⟨r0, r1⟩ := hrng r (by rw [← hr]; exact List.getElem_mem hjw)
  rw [hdj, plMost] at ha
  have c0 : (0 : Int) ≤ (i : Int) := Int.natCast_nonneg i
  have c1 : (i : Int) < (ws.length : Int) := Int.ofNat_lt.2 hi
  have c2 : (j : Int) < (w.length : Int) := Int.ofNat_lt.2 hjw
  have c3 : (0 : Int) ≤ (j : Int) := Int.natCast_nonneg j
  have hn := ih (j + 1) (mn a (rd room r)) (by omega) ha
  refine Ev.step (fun k => ?_) hn
  simp only [racewaylaw8_PlainBlocks.l1]
  rw [if_pos c0, if_pos c1, hw, if_pos c2, if_pos c3, hrd, if_pos r0, if_pos r1, wrap_succ (by omega)]
theorem blocks_chain {l : List S30} {L up f G : List Int} {n s t x : Int} {ws : List S61} (H : LL l L n up) (R : Right n s t l) (hcap : ∀ a ∈ l, a.f2 < 1000000000000) (h1 : 1 ≤ x) (h0 : rd up s = 0) (F : IsFlow n s t l f) (hG : IsFlow n s t l G) (hL : L.length ≤ 1000000) (hwsl : ws.length ≤ 1000000) (hcut : ¬ Ways l L t x (roomOf l G) s) :
  ∀ (rest : List S61) (i : Nat) (g : List Int) (sum : Int), ws.drop i = rest → IsFlow n s t l g → Chain l L s t x g rest G → sum = exc l g t - exc l f t → 0 ≤ sum ∧ sum ≤ (i : Int) * 1000000000000 →
   Ev (fun k => racewaylaw8_PlainBlocks.l0 k f x G ws (rd up t) L g sum (i : Int) n s t l) true
 | [], i, g, sum, hd, Fg, hc, hs, hb => by
  have hil : ws.length ≤ i := by
   have := congrArg List.length hd
   rw [List.length_drop, List.length_nil] at this
   omega
  have eg : G = g := hc
  subst eg
  have hbd := exc_bound (l := l) hG.within.nonneg t
  have hsl := hG.within.sum
  have hsc := R.sum
  have hR := R.len
  have hlen := hG.within.len
  have hw : wrap64 (exc l f t + sum) = exc l G t := by rw [hs, show exc l f t + (exc l G t - exc l f t) = exc l G t by omega]; exact wrap_id (by omega) (by omega)
  have hsame := same_ev G G (by omega)
  rw [decide_eq_true rfl] at hsame
  have c0 : ¬ (i : Int) < (ws.length : Int) := by omega
  refine Ev.step (f := fun k => (plain_Next.f k n s t l G L x).bind fun b => (flow_Value.f k n s t l f).bind fun c => (flow_Value.f k n s t l G).bind fun d => if b.2 = true then some false else (racewayref5_Same.f k G G).bind fun e => if e = true then some (d.1 == wrap64 (c.1 + sum)) else some false) (fun k => ?_) ?_
  ·simp only [racewaylaw8_PlainBlocks.l0]
   rw [if_neg c0]
  ·refine Ev.bind (next_no H R hG hL hcut) ?_
   refine Ev.bind (value_flow R F) ?_
   refine Ev.bind (value_flow R hG) ?_
   simp only [Bool.false_eq_true, if_false]
   refine Ev.bind hsame ?_
   simp only [if_true, hw, beq_self_eq_true]
   exact Ev.now _
 | w :: rest, i, g, sum, hd, Fg, ⟨hw, e, hc⟩, hs, hb => by
  have hil : i < ws.length := by
   have := congrArg List.length hd
   rw [List.length_drop, List.length_cons] at this
   omega
  have hwi : rd_T61 ws (i : Int) = w := by
   have h_ := List.drop_eq_getElem_cons hil
   rw [hd] at h_
   have e_ : ws[i] = w := (List.cons.inj h_).1.symm
   simp [rd_T61, hil, e_]
  have hdr : ws.drop (i + 1) = rest := by
   have h_ := List.drop_eq_getElem_cons hil
   rw [hd] at h_
   exact (List.cons.inj h_).2.symm
  obtain ⟨hne, m1, m2, fits, F2, hle, hsub, _, _, z, hz, ez⟩ := led_one H R hcap h1 Fg hw
  have hmo := e
  rw [← e] at m1 m2 F2 fits
  obtain ⟨hp, ha⟩ := hw.path
  have hwL : ∀ r ∈ w.f0, r ∈ L := fun r hr => (ha r hr).1
  have hndv := LL.arcs H hp hwL
  have hnd := nodup_div hndv
  have hin : ∀ r ∈ w.f0, InR l r := fun r hr => (H.mem r (hwL r hr)).1
  have hRl := R.len
  have hwl : w.f0.length ≤ 1000000 := by
   have := nodup_bound (k := 2 * l.length) hnd (fun r hr => ⟨(hin r hr).1, by have := (hin r hr).2; omega⟩)
   omega
  have hlv : (w.f0.length : Int) = rd up t := by
   have := (LL.levels H hp hwL).1
   omega
  have hexc : exc l (rpush g w.f1 w.f0) t = exc l g t + w.f1 := by
   rw [rpush_exc hp Fg.within.len hin, if_pos rfl, if_neg R.ne]
   omega
  have hsum2 : wrap64 (sum + w.f1) = sum + w.f1 := by
   have hi' : (i : Int) ≤ 1000000 := by omega
   exact wrap_id (by omega) (by omega)
  have hroom : (roomOf l g).length = 2 * l.length := roomOf_len Fg.within.len
  have hmin : plMost (roomOf l g) w.f0 4611686018427387904 = w.f1 := by
   rw [most_big hne (fun r hr => by have := room_lt Fg.within hcap (hin r hr); omega)]
   exact hmo.symm
  have hpush := (push_both R Fg hin hwl hp hndv (show 1 ≤ w.f1 by omega) (show w.f1 ≤ 2000000000000 by omega) hcap).1 fits
  have hsame := samei_ev w.f0 w.f0 hwl
  rw [decide_eq_true rfl] at hsame
  have hnext := blocks_chain H R hcap h1 h0 F hG hL hwsl hcut rest (i + 1) (rpush g w.f1 w.f0) (sum + w.f1) hdr F2 hc (by rw [hexc]; omega) (by
   refine ⟨by omega, ?_⟩
   have e1 : ((i + 1 : Nat) : Int) * 1000000000000 = (i : Int) * 1000000000000 + 1000000000000 := by omega
   omega)
  have c0 : (0 : Int) ≤ (i : Int) := Int.natCast_nonneg i
  have c1 : (i : Int) < (ws.length : Int) := Int.ofNat_lt.2 hil
  have c2 : ¬ (w.f0.length : Int) < (w.f0.length : Int) := Int.lt_irrefl _
  have c3 : ¬ w.f1 < x := by omega
  have hw3 : wrap64 ((i : Int) + 1) = ((i + 1 : Nat) : Int) := wrap_succ (by omega)
  have hend : Ev (fun k => racewaylaw8_PlainBlocks.l1 k f x G ws (rd up t) L g sum (i : Int) w.f0 true (roomOf l g) w.f1 (w.f0.length : Int) n s t l) true := by
   refine Ev.step (f := fun k => (residual_Push.f k n s t l g w.f0 w.f1).bind fun b => (racewaylaw8_same.f k w.f0 w.f0).bind fun c => if c = true then (if (w.f0.length : Int) = rd up t then (if w.f1 = w.f1 then (if w.f1 < x then some false else (if b.2 = 0 then racewaylaw8_PlainBlocks.l0 k f x G ws (rd up t) L b.1 (wrap64 (sum + w.f1)) (wrap64 ((i : Int) + 1)) n s t l else some false)) else some false) else some false) else some false) (fun k => ?_) ?_
   ·simp only [racewaylaw8_PlainBlocks.l1]
    rw [if_pos c0, if_pos c1, hwi, if_neg c2]
    simp only [if_true]
   ·refine Ev.bind hpush ?_
    refine Ev.bind hsame ?_
    simp only [if_true, if_pos hlv, if_neg c3, hsum2, hw3]
    exact hnext
  have hl1 := blocks_min hil (show rd_T61 ws (i : Int) = ⟨w.f0, w.f1⟩ from hwi) hwl (fun r hr => ⟨(hin r hr).1, by rw [hroom]; have := (hin r hr).2; omega⟩) hend w.f0.length 0 4611686018427387904 (by omega) (by rw [List.drop_zero]; exact hmin)
  refine Ev.step (f := fun k => (plain_Next.f k n s t l g L x).bind fun b => (residual_Room.f k n s t l g).bind fun c => racewaylaw8_PlainBlocks.l1 k f x G ws (rd up t) L g sum (i : Int) b.1 b.2 c.1 4611686018427387904 0 n s t l) (fun k => ?_) ?_
  ·simp only [racewaylaw8_PlainBlocks.l0]
   rw [if_pos c1]
  ·refine Ev.bind (next_yes H R Fg hL hw) ?_
   refine Ev.bind (room_ev R Fg) ?_
   exact hl1
theorem PlainBlocks : racewaylaw8_PlainBlocks.Pure := by
 intro a0 a1 l2 l3 a4 w0 w1 _ hw2 _ _ hw3 w4
 obtain ⟨x4, y4⟩ := wf_bounds w4
 obtain ⟨n, s, t, l, hmade, n2, n9, R, hl, _, hcap⟩ := made_ev w0 w1 hw2
 have hcap2 : ∀ a ∈ l, a.f2 < 1000000000000 := fun a ha => by have := hcap a ha; omega
 obtain ⟨f, F, _, hrouted⟩ := routed_ev R hcap2 hw3
 have p4 := pk_range (c := a4) (n := 10) (by decide)
 obtain ⟨a, ha⟩ : ∃ a, pk a4 10 = a := ⟨_, rfl⟩
 rw [ha] at p4
 have hwx : wrap64 (1 + a) = 1 + a := wrap_id (by omega) (by omega)
 obtain ⟨p, hp, U⟩ := levels_ev R F (least := 1 + a) (by omega)
 obtain ⟨g, ws, hblk, G, C, hcut, hlm⟩ := block_ev R F hcap2 (by omega) hp U
 obtain ⟨u, hu, Y⟩ := levels_ev R G (least := 1 + a) (by omega)
 have hll := ld_len (l := l) (room := roomOf l f) (up := p) (least := 1 + a) (2 * l.length)
 have hd1 := deep_ev R hp U
 have hd2 := deep_ev R hu Y
 have hlead := leads_ev R F hp U
 have hchk := check_flow R G
 have hmany := chain_nil R U C hcut
 have hfar := fun h => sink_farther R hcap2 (by omega) F U C hcut (Int.le_refl (1 + a)) Y h
 have L0 := blocks_chain (f := f) (ld_LL R.arcs U) R hcap2 (show 1 ≤ 1 + a by omega) U.src F G (by omega) (show ws.length ≤ 1000000 by omega) hcut ws 0 f 0 (List.drop_zero ..) F C (by omega) ⟨by omega, by omega⟩
 have hnl : ¬ (ws.length : Int) > ((ld l (roomOf l f) (1 + a) p (2 * l.length)).length : Int) := by omega
 have hd0 : (ws.length : Int) > 0 ↔ 0 ≤ rd p t := by
  rw [← hmany]
  cases ws with
  | nil => simp
  | cons a l => simp <;> omega
 generalize ld l (roomOf l f) (1 + a) p (2 * l.length) = L at *
 have hj : Ev (fun k => racewaylaw8_PlainBlocks.j0 k f (1 + a) g ws (rd p t) (rd u t) L false n s t l) true := by
  refine Ev.step (f := fun k => racewaylaw8_PlainBlocks.j1 k f (1 + a) g ws (rd p t) L false n s t l) (fun k => ?_) (Ev.step (fun k => ?_) L0)
  ·simp only [racewaylaw8_PlainBlocks.j0, Bool.false_eq_true, if_false, decide_eq_false hnl]
   by_cases c : 0 ≤ rd p t
   ·rw [if_pos (hd0.2 c), if_pos c]
    by_cases c2 : rd u t ≥ 0
    ·have := (hfar c2).2
     rw [if_pos c2, if_neg (by omega)]
    ·rw [if_neg c2]
   ·rw [if_neg (fun h => c (hd0.1 h)), if_neg c]
    by_cases c2 : rd u t ≥ 0
    ·exact absurd (hfar c2).1 c
    ·rw [if_neg c2]
  ·simp only [racewaylaw8_PlainBlocks.j1, Bool.false_eq_true, if_false]
   rfl
 refine Ev.rounds ?_
 unfold racewaylaw8_PlainBlocks.f
 refine Ev.bind shown8_ev ?_
 simp only [if_true]
 refine Ev.bind hmade ?_
 refine Ev.bind hrouted ?_
 simp only [pick_eq x4 y4 (show (0 : Int) < 10 by decide), ha, Option.bind_some, hwx]
 refine Ev.bind hblk ?_
 refine Ev.bind hd1 (Ev.bind hd2 (Ev.bind hlead ?_))
 simp only [if_true]
 refine Ev.bind hchk ?_
 exact hj
end Go.Proofs.Ytdiaedecnfbgdaa.Pure
