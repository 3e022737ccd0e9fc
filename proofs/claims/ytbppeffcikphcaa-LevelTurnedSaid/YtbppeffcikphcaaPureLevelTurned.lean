/- Plain lists and numbers, for the law LevelTurned: no program and no memory. -/
import Derived.Test.YtbppeffcikphcaaPLevelTurnedx0
import Derived.Test.YtbppeffcikphcaaPLevelTurnedx6
import Derived.Test.YtbppeffcikphcaaPLevelTurnedx18
import Derived.Test.YtbppeffcikphcaaPLevelTurnedx19
import Derived.Test.YtbppeffcikphcaaMLevelTurnedAll
set_option linter.unusedVariables false
namespace Go.Proofs.Ytbppeffcikphcaa.Pure
open Go.RowKit Go.Proofs.Ytbppeffcikphcaa.PLevelTurned Go.Proofs.YtbppeffcikphcaaW.PrintWords Go.Proofs.YtbppeffcikphcaaW.PrintLast
/-- A way of k tracks with room. -/
def Pt (l : List S49) (room : List Int) (least : Int) : Nat → Int → Int → Prop
  | 0, u, v => u = v
  | k + 1, u, v => ∃ r, InR l r ∧ least ≤ rd room r ∧ toOf l r = v ∧ Pt l room least k u (fromOf l r)
theorem Pt.cons {l : List S49} {room : List Int} {least r : Int} (hr : InR l r) (hroom : least ≤ rd room r) : ∀ {k : Nat} {v : Int}, Pt l room least k (toOf l r) v → Pt l room least (k + 1) (fromOf l r) v
  | 0, _, h => ⟨r, hr, hroom, h, rfl⟩
  | _ + 1, _, ⟨q, hq, h1, h2, h3⟩ => ⟨q, hq, h1, h2, Pt.cons hr hroom h3⟩
theorem turn_rd {l : List S49} {i : Int} (h0 : 0 ≤ i) (h1 : i < (l.length : Int)) : rd_T49 (l.map turnArc) i = turnArc (rd_T49 l i) := by
  have hi : i.toNat < l.length := by omega
  unfold rd_T49
  rw [List.getD_eq_getElem?_getD, List.getD_eq_getElem?_getD, List.getElem?_map, List.getElem?_eq_getElem hi]
  rfl
theorem turn_inr {l : List S49} {r : Int} : InR (l.map turnArc) r ↔ InR l r := by
  unfold InR
  rw [List.length_map]
theorem turn_ends {l : List S49} {r : Int} (h : InR l r) : fromOf (l.map turnArc) r = toOf l r ∧ toOf (l.map turnArc) r = fromOf l r := by
  obtain ⟨h0, h1⟩ := h
  unfold fromOf toOf
  rw [turn_rd (by omega) (by omega)]
  by_cases c : r % 2 = 1
  · simp only [if_pos c]
    exact ⟨rfl, rfl⟩
  · simp only [if_neg c]
    exact ⟨rfl, rfl⟩
theorem turn_room : ∀ (l : List S49) (f : List Int), roomOf (l.map turnArc) f = roomOf l f
  | [], f => by cases f <;> rfl
  | _ :: _, [] => rfl
  | a :: l, x :: f => by
    have e2 : (turnArc a).f2 = a.f2 := rfl
    simp only [List.map_cons, roomOf, e2, turn_room l f]
theorem Pt.back {l : List S49} {room : List Int} {least : Int} : ∀ {k : Nat} {u v : Int}, Pt l room least k u v → Pt (l.map turnArc) room least k v u
  | 0, _, _, h => Eq.symm h
  | k + 1, u, v, ⟨r, hr, h1, h2, h3⟩ => by
    obtain ⟨e1, e2⟩ := turn_ends hr
    have h4 := Pt.back h3
    rw [← e2] at h4
    have h5 := Pt.cons (turn_inr.2 hr) h1 h4
    rw [e1, h2] at h5
    exact h5
section
variable {n s least : Int} {l : List S49} {room up : List Int}
theorem up_way (hg : ∀ a ∈ l, GoodArc n a) (U : IsUp n s l room least up) : ∀ (k : Nat) (v : Int), 0 ≤ v → v ≤ n → rd up v = (k : Int) → Pt l room least k s v
  | 0, v, v0, vn, h => (U.zero v v0 vn h).symm
  | k + 1, v, v0, vn, h => by
    obtain ⟨r, hr, h1, h2, h3⟩ := U.pred v v0 vn (by omega)
    obtain ⟨f1, fn, _, _⟩ := ends_range hg hr
    exact ⟨r, hr, h1, h2, up_way hg U k _ (by omega) fn (by omega)⟩
theorem way_up (U : IsUp n s l room least up) : ∀ (k : Nat) (v : Int), Pt l room least k s v → 0 ≤ rd up v ∧ rd up v ≤ (k : Int)
  | 0, v, h => by
    have h : s = v := h
    rw [← h, U.src]; omega
  | k + 1, v, ⟨r, hr, h1, h2, h3⟩ => by
    have h4 := way_up U k _ h3
    have h5 := U.step r hr h1 h4.1
    rw [h2] at h5
    omega
theorem way_met {met : List Bool} (M : IsMet n s l room least met) : ∀ (k : Nat) (v : Int), Pt l room least k s v → rdOf false met v = true
  | 0, v, h => by
    have h : s = v := h
    rw [← h]; exact M.src
  | k + 1, v, ⟨r, hr, h1, h2, h3⟩ => by
    rw [← h2]
    exact M.step r hr h1 (way_met M k _ h3)
end
theorem LevelTurned : racewaylaw7_LevelTurned.Pure := by
  intro a0 a1 l2 l3 a4 w0 w1 m2 w2 m3 y3 w3 w4
  obtain ⟨n, s, t, l, hmade, n2, n9, R, hl, _, hcap⟩ := made_ev w0 w1 w2
  obtain ⟨f, F, _, hrout⟩ := routed_ev R (fun a ha => by have := hcap a ha; omega) w3
  obtain ⟨b0, b1⟩ := wf_bounds w4
  have p := pk_range (c := a4) (n := 10) (by omega)
  obtain ⟨least, hle⟩ : ∃ least, 1 + pk a4 10 = least := ⟨_, rfl⟩
  have hl1 : 1 ≤ least := by omega
  have R' := turn_right R
  have F' := turn_flow F
  obtain ⟨up, hup, U⟩ := levels_ev R F hl1
  obtain ⟨up', hup', U'⟩ := levels_ev R' F' hl1
  obtain ⟨met, hmet, M⟩ := reach_ev R F hl1
  have hd := deep_ev R hup U
  have hd' := deep_ev R' hup' U'
  rw [turn_room] at U'
  have t1 := R.t1
  have tn := R.tn
  have s1 := R.s1
  have sn := R.sn
  have g1 := U.rng t (by omega) tn
  have g2 := U'.rng s (by omega) sn
  have k1 : 0 ≤ rd up t → 0 ≤ rd up' s ∧ rd up' s ≤ rd up t := fun h => by
    have h1 := up_way R.arcs U (rd up t).toNat t (by omega) tn (by omega)
    have h2 := way_up U' _ _ h1.back
    omega
  have k2 : 0 ≤ rd up' s → 0 ≤ rd up t ∧ rd up t ≤ rd up' s := fun h => by
    have h1 := (up_way R'.arcs U' (rd up' s).toNat s (by omega) sn (by omega)).back
    rw [turn_turn] at h1
    have h2 := way_up U _ _ h1
    omega
  have he : rd up' s = rd up t := by omega
  have hne : rd up t ≠ 0 := fun h => R.ne (U.zero t (by omega) tn h).symm
  have hm : rdOf false met t = decide (rd up t ≥ 0) := by
    by_cases c : 0 ≤ rd up t
    · rw [decide_eq_true c]
      exact way_met M _ _ (up_way R.arcs U (rd up t).toNat t (by omega) tn (by omega))
    · rw [decide_eq_false c]
      cases e : rdOf false met t with
      | false => rfl
      | true => exact absurd (M.min (fun v => 0 ≤ rd up v) (by show 0 ≤ rd up s; rw [U.src]; omega) (fun r hr hroom h => (U.step r hr hroom h).1) t (by omega) tn e) c
  have ht : net_Turn.f n s t l = some (n, t, s, l.map turnArc) := turn_eq (by omega)
  have hml := M.len
  have hw : wrap64 (1 + pk a4 10) = least := by rw [wrap_id (by omega) (by omega)]; exact hle
  rw [he] at hd'
  have j1 : t < (met.length : Int) := by omega
  have j2 : rd up t < n := by omega
  have j3 : (0 : Int) ≤ t := by omega
  refine Ev.rounds ?_
  unfold racewaylaw7_LevelTurned.f
  refine Ev.bind shown7_ev ?_
  simp only [if_true]
  refine Ev.bind hmade (Ev.bind hrout ?_)
  simp only [pick_eq b0 b1 (show (0 : Int) < 10 by omega), Option.bind_some, hw]
  refine Ev.bind hd ?_
  simp only [ht, Option.bind_some]
  refine Ev.bind hd' (Ev.bind hmet ?_)
  refine Ev.congr (fun k => ?_) (Ev.now true)
  simp only [if_true]
  rw [if_pos j3, if_pos j1, hm, if_pos (by simp), if_pos j2]
  simp [hne]
end Go.Proofs.Ytbppeffcikphcaa.Pure
