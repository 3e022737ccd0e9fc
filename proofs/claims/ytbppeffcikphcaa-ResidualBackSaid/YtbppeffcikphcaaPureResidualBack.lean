/- Plain lists and numbers, for the law ResidualBack: no program and no memory. -/
import Derived.Test.YtbppeffcikphcaaPResidualBackx0
import Derived.Test.YtbppeffcikphcaaPResidualBackx6
import Derived.Test.YtbppeffcikphcaaPResidualBackx8
import Derived.Test.YtbppeffcikphcaaPResidualBackx12
import Derived.Test.YtbppeffcikphcaaPResidualBackx13
import Derived.Test.YtbppeffcikphcaaMResidualBackAll
set_option linter.unusedVariables false
namespace Go.Proofs.Ytbppeffcikphcaa.Pure
open Go.RowKit Go.Proofs.Ytbppeffcikphcaa.PResidualBack Go.Proofs.YtbppeffcikphcaaW.PrintWords Go.Proofs.YtbppeffcikphcaaW.PrintLast
/-- Arcs beside one another, and all that can be on them. -/
def fulls (xs : List Int) : List Int := xs.map fun c => pk c 50
def arc12 (c : Int) : S49 := ⟨1, 2, c⟩
def beside (xs : List Int) : List S49 := (fulls xs).map arc12
theorem fulls_len (xs : List Int) : (fulls xs).length = xs.length := List.length_map _
theorem beside_len (xs : List Int) : (beside xs).length = xs.length := by rw [beside, List.length_map, fulls_len]
theorem fulls_get {xs : List Int} {i : Nat} (h : i < (fulls xs).length) : (fulls xs)[i] = pk (rd xs (i : Int)) 50 := by
  have h2 : i < xs.length := by rw [fulls_len] at h; exact h
  rw [rd_get h2]
  simp only [fulls, List.getElem_map]
theorem fulls_range {xs : List Int} {i : Int} (h0 : 0 ≤ i) (h1 : i < (xs.length : Int)) : rd (fulls xs) i = pk (rd xs i) 50 ∧ 0 ≤ rd (fulls xs) i ∧ rd (fulls xs) i < 50 := by
  obtain ⟨j, rfl⟩ : ∃ j : Nat, i = (j : Int) := ⟨i.toNat, by omega⟩
  have hl := fulls_len xs
  have hj : j < (fulls xs).length := by omega
  have e := fulls_get hj
  rw [rd_get hj, e]
  have := pk_range (c := rd xs (j : Int)) (n := 50) (by decide)
  exact ⟨rfl, this.1, this.2⟩
theorem beside_rd {xs : List Int} {i : Int} (h0 : 0 ≤ i) (h1 : i < (xs.length : Int)) : rd_T49 (beside xs) i = ⟨1, 2, rd (fulls xs) i⟩ := by
  obtain ⟨j, rfl⟩ : ∃ j : Nat, i = (j : Int) := ⟨i.toNat, by omega⟩
  have hl := fulls_len xs
  have hb := beside_len xs
  have hj : j < (fulls xs).length := by omega
  have hj2 : j < (beside xs).length := by omega
  rw [rdT_get hj2, rd_get hj]
  simp only [beside, List.getElem_map, arc12]
theorem beside_good (xs : List Int) : (∀ a ∈ beside xs, GoodArc 2 a ∧ a.f2 < 50) := by
  intro a ha
  obtain ⟨c, hc, rfl⟩ := List.mem_map.1 ha
  obtain ⟨x, _, rfl⟩ := List.mem_map.1 hc
  have := pk_range (c := x) (n := 50) (by decide)
  simp only [arc12, GoodArc]
  omega
theorem sum_few : ∀ {l : List S49}, (∀ a ∈ l, GoodArc 2 a ∧ a.f2 < 50) → sumCap l ≤ 50 * (l.length : Int)
  | [], _ => by simp [sumCap]
  | a :: l, h => by
    have h1 := sum_few (l := l) (fun x hx => h x (List.mem_cons_of_mem _ hx))
    have h2 := (h a List.mem_cons_self).2
    simp only [sumCap, List.length_cons]
    omega
theorem beside_right {xs : List Int} (h : xs.length ≤ 60) : Right 2 1 2 (beside xs) := by
  have hb := beside_len xs
  have hs := sum_few (beside_good xs)
  exact ⟨by decide, by decide, by decide, by decide, by decide, by decide, by decide, by omega, fun a ha => (beside_good xs a ha).1, by omega⟩
theorem beside_zeros (xs : List Int) : IsFlow 2 1 2 (beside xs) (List.replicate xs.length 0) := by
  have := IsFlow.zeros (n := 2) (s := 1) (t := 2) (l := beside xs) (fun a ha => (beside_good xs a ha).1)
  rw [beside_len] at this
  exact this
theorem beside_full (xs : List Int) : IsFlow 2 1 2 (beside xs) (fulls xs) := by
  refine ⟨within_of_rd (by rw [fulls_len, beside_len]) (fun i h0 h1 => ?_), fun v v1 v2 v3 v4 => by omega⟩
  rw [beside_len] at h1
  rw [beside_rd h0 h1]
  have := fulls_range h0 h1
  show 0 ≤ rd (fulls xs) i ∧ rd (fulls xs) i ≤ rd (fulls xs) i
  omega
theorem push_low {n s t m : Int} {l : List S49} {f w : List Int} (R : Right n s t l) (F : IsFlow n s t l f) (hw : ∀ r ∈ w, InR l r) (hwl : w.length ≤ 1000000) (hp : RPath l s w t) (hne : w.length ≠ 0) (hm : m < 1) :
    Ev (fun k => residual_Push.f k n s t l f w m) ([], 3) := by
  refine Ev.bind (check_flow R F) ?_
  simp only [if_true]
  refine push_walk R.arcs hw R.len hwl R.ne (v := t) ([], 3) ?_ w.length 0 s (by omega) (by simpa using hp)
  rw [if_neg hne]
  refine Ev.step (f := fun _ => some ([], 3)) (fun k => ?_) (Ev.now _)
  simp only [residual_Push.j1]
  rw [if_neg (by simp), if_pos hm]
section
variable {xs : List Int}
theorem back_made (hx : ∀ x ∈ xs, (Lit.int .i64 x).wf = true) (hl : xs.length ≤ 60) {e : Bool} (zs : List Int)
    (H : Ev (fun k => racewaylaw6_ResidualBack.l0 k xs zs (fulls xs) (xs.length : Int) 2 1 2 (beside xs)) e) (d : Nat) :
    ∀ (i : Nat) (full : List Int), i + d = xs.length → full.length = xs.length → (∀ j : Int, 0 ≤ j → j < (i : Int) → rd full j = rd (fulls xs) j) →
      Ev (fun k => racewaylaw6_ResidualBack.l0 k xs zs full (i : Int) 2 1 2 (((fulls xs).take i).map arc12)) e := by
  have hfl := fulls_len xs
  induction d with
  | zero =>
    intro i full hi hlen h
    have e1 : full = fulls xs := rd_ext (by omega) (fun v v0 => by
      by_cases c : v < (i : Int)
      · exact h v v0 c
      · unfold rd
        rw [List.getD_eq_getElem?_getD, List.getD_eq_getElem?_getD, List.getElem?_eq_none (by omega), List.getElem?_eq_none (by omega)])
    have e2 : ((fulls xs).take i).map arc12 = beside xs := by rw [List.take_of_length_le (by omega)]; rfl
    obtain rfl : i = xs.length := by omega
    rw [e1, e2]
    exact H
  | succ d ih =>
    intro i full hi hlen h
    have hix : i < xs.length := by omega
    have hif : i < (fulls xs).length := by omega
    have hb := wf_bounds (hx xs[i] (List.getElem_mem hix))
    have hs : ∀ j : Int, 0 ≤ j → rd (full.set (i : Int).toNat (pk (rd xs (i : Int)) 50)) j = if (i : Int) = j then pk (rd xs (i : Int)) 50 else rd full j := fun j j0 => rd_set (by omega) (by omega) j0
    have hfi := (fulls_range (xs := xs) (i := (i : Int)) (by omega) (by omega)).1
    have hn := ih (i + 1) (full.set (i : Int).toNat (pk (rd xs (i : Int)) 50)) (by omega) (by rw [List.length_set]; exact hlen) (fun j j0 hj => by
      rw [hs j j0]
      by_cases c : (i : Int) = j
      · rw [if_pos c, ← c, hfi]
      · rw [if_neg c]
        exact h j j0 (by omega))
    have ht : ((fulls xs).take (i + 1)).map arc12 = ((fulls xs).take i).map arc12 ++ [(⟨1, 2, rd (full.set (i : Int).toNat (pk (rd xs (i : Int)) 50)) (i : Int)⟩ : S49)] := by
      rw [List.take_succ_eq_append_getElem hif, List.map_append, hs _ (by omega), if_pos rfl, fulls_get hif]
      rfl
    rw [ht] at hn
    refine Ev.step (fun k => ?_) hn
    simp only [racewaylaw6_ResidualBack.l0]
    have hp : racewaylaw6_pick.f (rd xs (i : Int)) 50 = some (pk (rd xs (i : Int)) 50) := by
      rw [rd_get hix]
      exact pick_eq hb.1 hb.2 (by decide)
    rw [if_pos (by omega), if_pos (by omega), hp]
    simp only [Option.bind_some]
    rw [if_pos (by omega), if_pos (by rw [List.length_map, List.length_take]; omega), wrap_id (x := (i : Int) + 1) (by omega) (by omega)]
    rfl
theorem back_round (hl : xs.length ≤ 60) (d : Nat) : ∀ i : Nat, i + d = xs.length →
    Ev (fun k => racewaylaw6_ResidualBack.l1 k xs (List.replicate xs.length 0) (fulls xs) (roomOf (beside xs) (List.replicate xs.length 0)) (roomOf (beside xs) (fulls xs)) (i : Int) 2 1 2 (beside xs)) true := by
  have R := beside_right hl
  have Z := beside_zeros xs
  have F := beside_full xs
  have hcap : ∀ a ∈ beside xs, a.f2 < 1000000000000 := fun a ha => by have := (beside_good xs a ha).2; omega
  have hfl := fulls_len xs
  have hbl := beside_len xs
  have hra := roomOf_len Z.within.len
  have hrb := roomOf_len F.within.len
  induction d with
  | zero =>
    intro i hi
    refine Ev.step (f := fun _ => some true) (fun k => ?_) (Ev.now _)
    simp only [racewaylaw6_ResidualBack.l1]
    rw [if_neg (by omega)]
  | succ d ih =>
    intro i hi
    have e0 : wrap64 (2 * (i : Int)) = 2 * (i : Int) := wrap_id (by omega) (by omega)
    have e1 : wrap64 (2 * (i : Int) + 1) = 2 * (i : Int) + 1 := wrap_id (by omega) (by omega)
    obtain ⟨a0, a1⟩ := roomOf_rd Z.within hcap (i := (i : Int)) (by omega) (by omega)
    obtain ⟨b0, b1⟩ := roomOf_rd F.within hcap (i := (i : Int)) (by omega) (by omega)
    obtain ⟨_, g0, g1⟩ := fulls_range (xs := xs) (i := (i : Int)) (by omega) (by omega)
    have hz : rd (List.replicate xs.length 0) (i : Int) = 0 := rd_replicate _ _
    rw [beside_rd (by omega) (by omega), hz, Int.sub_zero] at a0
    rw [hz] at a1
    rw [beside_rd (by omega) (by omega), Int.sub_self] at b0
    have hr : ∀ r ∈ [2 * (i : Int)], InR (beside xs) r := fun r h => by
      obtain rfl := List.mem_singleton.1 h
      exact ⟨by omega, by omega⟩
    have ht : fromOf (beside xs) (2 * (i : Int)) = 1 ∧ toOf (beside xs) (2 * (i : Int)) = 2 := by
      unfold fromOf toOf
      rw [if_neg (by omega), if_neg (by omega), show 2 * (i : Int) / 2 = (i : Int) by omega, beside_rd (by omega) (by omega)]
      exact ⟨rfl, rfl⟩
    have hp : RPath (beside xs) 1 [2 * (i : Int)] 2 := ⟨ht.1, ht.2⟩
    have hrm : ∀ m, rm (2 * (i : Int)) m = m := fun m => by
      unfold rm
      rw [if_neg (by omega)]
    have h2 : 2 * (i : Int) / 2 = (i : Int) := by omega
    have last : Ev (fun k => racewaylaw6_ResidualBack.j5 k xs (List.replicate xs.length 0) (fulls xs) (roomOf (beside xs) (List.replicate xs.length 0)) (roomOf (beside xs) (fulls xs)) (i : Int) false 2 1 2 (beside xs)) true := by
      have hpush := (push_both R F hr (by simp) hp (by simp) (m := 1) (by decide) (by decide) hcap).2 (fun h => by
        have := h _ List.mem_cons_self
        rw [hrm, h2, beside_rd (by omega) (by omega)] at this
        have h3 : rd (fulls xs) (i : Int) + 1 ≤ rd (fulls xs) (i : Int) := this.2
        omega)
      have hn := ih (i + 1) (by omega)
      refine Ev.step (f := ?g) (fun k => ?h) ?e
      case h =>
        simp only [racewaylaw6_ResidualBack.j5]
        rw [if_neg (by decide), e0, wrap_id (x := (i : Int) + 1) (by omega) (by omega)]
      case e =>
        refine Ev.bind hpush ?_
        simp only [if_true]
        exact hn
    have first : Ev (fun k => racewaylaw6_ResidualBack.j4 k xs (List.replicate xs.length 0) (fulls xs) (roomOf (beside xs) (List.replicate xs.length 0)) (roomOf (beside xs) (fulls xs)) (i : Int) false 2 1 2 (beside xs)) true := by
      refine Ev.step (f := ?g2) (fun k => ?h2) ?e2
      case h2 =>
        simp only [racewaylaw6_ResidualBack.j4]
        rw [if_neg (by decide), if_pos (by omega), if_pos (by omega), e0]
      case e2 =>
        by_cases c : 0 < rd (fulls xs) (i : Int)
        · have hpush := (push_both R Z hr (by simp) hp (by simp) (m := rd (fulls xs) (i : Int)) (by omega) (by omega) hcap).1 (fun r h => by
            obtain rfl := List.mem_singleton.1 h
            rw [hrm, h2, hz, beside_rd (by omega) (by omega)]
            show 0 ≤ 0 + rd (fulls xs) (i : Int) ∧ 0 + rd (fulls xs) (i : Int) ≤ rd (fulls xs) (i : Int)
            omega)
          have hw : rd (rpush (List.replicate xs.length 0) (rd (fulls xs) (i : Int)) [2 * (i : Int)]) (i : Int) = rd (fulls xs) (i : Int) := by
            rw [rpush_rd (fun r h => by
              obtain rfl := List.mem_singleton.1 h
              rw [List.length_replicate]
              omega) _ (by omega), hz]
            simp only [dm]
            rw [if_pos h2, hrm]
            omega
          have hwl : (rpush (List.replicate xs.length 0) (rd (fulls xs) (i : Int)) [2 * (i : Int)]).length = xs.length := by rw [rpush_length, List.length_replicate]
          refine Ev.bind hpush ?_
          refine Ev.congr (fun k => ?_) last
          simp only [if_true]
          rw [if_pos c, if_pos (by omega), hw, bne_self_eq_false]
        · have hpush := push_low R Z hr (by simp) hp (by simp) (m := rd (fulls xs) (i : Int)) (by omega)
          refine Ev.bind hpush ?_
          refine Ev.congr (fun k => ?_) last
          simp only
          rw [if_neg (by decide), if_neg c]
    refine Ev.step (fun k => ?_) first
    simp only [racewaylaw6_ResidualBack.l1]
    rw [e0, e1, if_pos (by omega), if_pos (by omega), if_pos (by omega), if_pos (by omega), if_pos (by omega), if_pos a0, if_pos (by omega), if_pos (by omega), if_pos a1, if_pos (by omega), if_pos b0, if_pos (by omega), b1, bne_self_eq_false]
end
theorem ResidualBack : racewaylaw6_ResidualBack.Pure := by
  intro xs _ _ hx
  refine Ev.rounds ?_
  unfold racewaylaw6_ResidualBack.f
  refine Ev.bind shown_ev ?_
  simp only [if_true]
  by_cases c : (xs.length : Int) > 60
  · rw [decide_eq_true c]
    refine Ev.step (f := fun _ => some true) (fun k => ?_) (Ev.now _)
    simp only [racewaylaw6_ResidualBack.j0]
    rw [if_pos (by trivial)]
  · rw [decide_eq_false c]
    have hl : xs.length ≤ 60 := by omega
    have R := beside_right hl
    have Z := beside_zeros xs
    have F := beside_full xs
    have hcap : ∀ a ∈ beside xs, a.f2 < 1000000000000 := fun a ha => by have := (beside_good xs a ha).2; omega
    have hbl := beside_len xs
    obtain ⟨met, hmet, M⟩ := reach_ev R F (least := 1) (by decide)
    have hml := M.len
    have hm2 : rdOf false met 2 = false := by
      cases e : rdOf false met 2 with
      | false => rfl
      | true =>
        have h := M.min (fun v => v = 1) rfl (fun r hr hroom hf => by
          have h1 := hr.1
          have h2 := hr.2
          obtain ⟨b0, b1⟩ := roomOf_rd F.within hcap (i := r / 2) (by omega) (by omega)
          rw [beside_rd (by omega) (by omega), Int.sub_self] at b0
          unfold fromOf at hf
          unfold toOf
          by_cases p : r % 2 = 1
          · rw [if_pos p, beside_rd (by omega) (by omega)]
          · rw [show 2 * (r / 2) = r by omega] at b0
            omega) 2 (by decide) (by decide) e
        exact absurd h (by decide)
    have hround := back_round hl xs.length 0 (by omega)
    have H : Ev (fun k => racewaylaw6_ResidualBack.l0 k xs (List.replicate xs.length 0) (fulls xs) (xs.length : Int) 2 1 2 (beside xs)) true := by
      refine Ev.step (f := ?g) (fun k => ?h) ?e
      case h =>
        simp only [racewaylaw6_ResidualBack.l0]
        rw [if_neg (by omega)]
      case e =>
        refine Ev.bind (room_ev R Z) (Ev.bind (room_ev R F) (Ev.bind hmet ?_))
        simp only [if_true]
        refine Ev.congr (fun k => if_pos (by omega)) ?_
        rw [hm2]
        refine Ev.step (fun k => ?_) hround
        simp only [racewaylaw6_ResidualBack.j2]
        rw [if_neg (by decide)]
        rfl
    have hall := back_made (fun x h => hx x h) hl (List.replicate xs.length 0) H xs.length 0 (List.replicate xs.length 0) (by omega) (by rw [List.length_replicate]) (fun j h0 h1 => by omega)
    refine Ev.step (fun k => ?_) hall
    simp only [racewaylaw6_ResidualBack.j0]
    rw [if_neg (by decide), if_pos (by omega), if_pos (by omega), Int.toNat_natCast]
    rfl
end Go.Proofs.Ytbppeffcikphcaa.Pure
