/- Plain lists and numbers, for the law LevelRooms: no program and no memory. -/
-- slim
import Derived.Test.YtbppeffcikphcaaPLevelRoomsx0
import Derived.Test.YtbppeffcikphcaaPLevelRoomsx6
import Derived.Test.YtbppeffcikphcaaPLevelRoomsx15
import Derived.Test.YtbppeffcikphcaaMLevelRoomsAll
set_option linter.unusedVariables false
namespace Go.Proofs.Ytbppeffcikphcaa.Pure
open Go.RowKit Go.Proofs.Ytbppeffcikphcaa.PLevelRooms Go.Proofs.YtbppeffcikphcaaW.PrintWords Go.Proofs.YtbppeffcikphcaaW.PrintLast
theorem up_mono {n s x y : Int} {l : List S49} {room p q : List Int} (hg : ∀ a ∈ l, GoodArc n a) (U : IsUp n s l room x p) (V : IsUp n s l room y q) (h : x ≤ y) (d : Nat) : ∀ v, 0 ≤ v → v ≤ n → rd q v = d → 0 ≤ rd p v ∧ rd p v ≤ d := by
 induction d with
 | zero =>
  intro v v0 vn e
  have := V.zero v v0 vn e
  subst this
  rw [U.src]
  omega
 | succ d ih =>
  intro v v0 vn e
  obtain ⟨r, hr, hroom, ht, hf⟩ := V.pred v v0 vn (by omega)
  obtain ⟨f1, fn, _, _⟩ := ends_range hg hr
  obtain ⟨a, b⟩ := ih (fromOf l r) (by omega) fn (by omega)
  have := U.step r hr (by omega) a
  rw [ht] at this
  omega
theorem room_lt {l : List S49} {f : List Int} (W : Within l f) (hcap : ∀ a ∈ l, a.f2 < 1000000000000) {r : Int} (h : InR l r) : rd (roomOf l f) r < 1000000000000 := by
 obtain ⟨h0, h1⟩ := h
 obtain ⟨a, b⟩ := roomOf_rd W hcap (i := r / 2) (by omega) (by omega)
 have hl := W.len
 obtain ⟨c0, c1⟩ := W.get (r / 2).toNat (by omega) (by omega)
 have e1 := rd_get (f := f) (i := (r / 2).toNat) (by omega)
 have e2 := rdT_get (l := l) (i := (r / 2).toNat) (by omega)
 rw [Int.toNat_of_nonneg (by omega)] at e1 e2
 have hc := hcap _ (List.getElem_mem (show (r / 2).toNat < l.length by omega))
 rw [e1, e2] at a
 rw [e1] at b
 by_cases c : r % 2 = 1
 ·rw [show r = 2 * (r / 2) + 1 by omega, b]
  omega
 ·rw [show r = 2 * (r / 2) by omega, a]
  omega
theorem far_alone {n s m : Int} {l : List S49} {room far : List Int} (V : IsUp n s l room m far) (h : ∀ r, InR l r → rd room r < m) : ∀ v, 0 ≤ v → v ≤ n → rd far v ≤ 0 := by
 intro v v0 vn
 by_cases c : 0 < rd far v
 ·obtain ⟨r, hr, hroom, _, _⟩ := V.pred v v0 vn c
  have := h r hr
  omega
 ·omega
theorem rooms_loop {n s t : Int} {l : List S49} {p q far : List Int} (hn : n ≤ 9) (hp : (p.length : Int) = n + 1) (hq : (q.length : Int) = n + 1) (hf : (far.length : Int) = n + 1)
  (h1 : ∀ v, 1 ≤ v → v ≤ n → 0 ≤ rd q v → 0 ≤ rd p v ∧ rd p v ≤ rd q v) (h2 : ∀ v, 1 ≤ v → v ≤ n → rd far v ≤ 0 ∧ (rd far v = 0 ↔ v = s)) (d : Nat) : ∀ v : Nat, 1 ≤ v → (v : Int) + d = n + 1 → Ev (fun k => racewaylaw7_LevelRooms.l0 k p q far (v : Int) n s t l) true := by
 induction d with
 | zero =>
  intro v v1 hv
  refine Ev.step (f := fun _ => some true) (fun k => ?_) (Ev.now _)
  simp only [racewaylaw7_LevelRooms.l0]
  rw [if_neg (by omega)]
 | succ d ih =>
  intro v v1 hv
  obtain ⟨b1, b2⟩ := h2 v (by omega) (by omega)
  refine Ev.step (fun k => ?_) (ih (v + 1) (by omega) (by omega))
  simp only [racewaylaw7_LevelRooms.l0]
  have hw : wrap64 ((v : Int) + 1) = ((v + 1 : Nat) : Int) := wrap_succ (by omega)
  rw [hw, if_pos (by omega), if_pos (by omega), if_pos (by omega), if_pos (show (v : Int) < (far.length : Int) by omega), if_neg (show ¬ rd far (v : Int) > 0 by omega)]
  have hlast : (if rd far (v : Int) = 0 then (if (v : Int) = s then racewaylaw7_LevelRooms.l0 k p q far ((v + 1 : Nat) : Int) n s t l else some false) else (if (v : Int) = s then some false else racewaylaw7_LevelRooms.l0 k p q far ((v + 1 : Nat) : Int) n s t l)) = racewaylaw7_LevelRooms.l0 k p q far ((v + 1 : Nat) : Int) n s t l := by
   by_cases c : rd far (v : Int) = 0
   ·rw [if_pos c, if_pos (b2.1 c)]
   ·rw [if_neg c, if_neg (fun e => c (b2.2 e))]
  rw [hlast]
  by_cases c : 0 ≤ rd q (v : Int)
  ·obtain ⟨c1, c2⟩ := h1 v (by omega) (by omega) c
   rw [if_pos c, if_pos (by omega), if_neg (by omega), if_neg (by omega)]
  ·rw [if_neg c]
theorem LevelRooms : racewaylaw7_LevelRooms.Pure := by
 intro a0 a1 l2 l3 a4 a5 w0 w1 m2 w2 m3 y3 w3 w4 w5
 obtain ⟨n, s, t, l, hmade, n2, n9, R, hl, _, hcap⟩ := made_ev w0 w1 w2
 have hcap2 : ∀ a ∈ l, a.f2 < 1000000000000 := fun a ha => by have := hcap a ha; omega
 obtain ⟨f, F, _, hrout⟩ := routed_ev R hcap2 w3
 obtain ⟨x4, y4⟩ := wf_bounds w4
 obtain ⟨x5, y5⟩ := wf_bounds w5
 have p4 := pk_range (c := a4) (n := 30) (by decide)
 have p5 := pk_range (c := a5) (n := 30) (by decide)
 obtain ⟨a, ha⟩ : ∃ a, pk a4 30 = a := ⟨_, rfl⟩
 obtain ⟨b, hb⟩ : ∃ b, pk a5 30 = b := ⟨_, rfl⟩
 rw [ha] at p4
 rw [hb] at p5
 have hmn : 0 ≤ mn a b ∧ mn a b ≤ mx a b ∧ mx a b < 30 := by unfold mn mx; split <;> split <;> omega
 have hwx : wrap64 (1 + mn a b) = 1 + mn a b := wrap_id (by omega) (by omega)
 have hwy : wrap64 (1 + mx a b) = 1 + mx a b := wrap_id (by omega) (by omega)
 obtain ⟨p, hp, U⟩ := levels_ev R F (least := 1 + mn a b) (by omega)
 obtain ⟨q, hq, V⟩ := levels_ev R F (least := 1 + mx a b) (by omega)
 obtain ⟨far, hfar, Z⟩ := levels_ev R F (least := 4611686018427387904) (by decide)
 have hlead := leads_ev R F hfar Z
 have hroom : ∀ r, InR l r → rd (roomOf l f) r < 4611686018427387904 := fun r hr => by have := room_lt F.1 hcap2 hr; omega
 have hon : ld l (roomOf l f) 4611686018427387904 far (2 * l.length) = [] := by
  apply List.eq_nil_iff_forall_not_mem.2
  intro r hr
  obtain ⟨r0, r1, h, _⟩ := (ld_mem _).1 hr
  have := hroom r ⟨r0, by omega⟩
  omega
 have L0 := rooms_loop (n := n) (s := s) (t := t) (l := l) n9 U.len V.len Z.len (fun v v1 vn h => by
   have := up_mono R.arcs U V (by omega) (rd q v).toNat v (by omega) vn (by omega)
   omega) (fun v v1 vn => ⟨far_alone Z hroom v (by omega) vn, ⟨fun e => Z.zero v (by omega) vn e, fun e => by rw [e]; exact Z.src⟩⟩) n.toNat 1 (by omega) (by omega)
 refine Ev.rounds ?_
 unfold racewaylaw7_LevelRooms.f
 refine Ev.bind shown7_ev ?_
 simp only [if_true]
 refine Ev.bind hmade (Ev.bind hrout ?_)
 simp only [pick_eq x4 y4 (show (0 : Int) < 30 by decide), pick_eq x5 y5 (show (0 : Int) < 30 by decide), ha, hb, Option.bind_some, hwx, hwy]
 refine Ev.bind hp (Ev.bind hq (Ev.bind hfar (Ev.bind hlead ?_)))
 simp only [if_true]
 refine Ev.step (fun k => ?_) L0
 simp only [racewaylaw7_LevelRooms.j0, hon]
 rw [if_neg (by simp)]
 rfl
end Go.Proofs.Ytbppeffcikphcaa.Pure
