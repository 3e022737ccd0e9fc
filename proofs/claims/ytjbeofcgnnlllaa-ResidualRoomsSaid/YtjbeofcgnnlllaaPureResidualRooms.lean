/- Plain lists and numbers, for the law ResidualRooms: no program and no memory. -/
import Derived.Test.YtjbeofcgnnlllaaPResidualRoomsx0
import Derived.Test.YtjbeofcgnnlllaaPResidualRoomsx6
import Derived.Test.YtjbeofcgnnlllaaPResidualRoomsx14
import Derived.Test.YtjbeofcgnnlllaaMResidualRoomsBase
import Derived.Test.YtjbeofcgnnlllaaMResidualRoomsPick
import Derived.Test.YtjbeofcgnnlllaaMResidualRoomsMade
import Derived.Test.YtjbeofcgnnlllaaMResidualRoomsFlowmath
import Derived.Test.YtjbeofcgnnlllaaMResidualRoomsFlowfun
import Derived.Test.YtjbeofcgnnlllaaMResidualRoomsWalk
import Derived.Test.YtjbeofcgnnlllaaMResidualRoomsRouted
import Derived.Test.YtjbeofcgnnlllaaMResidualRoomsResid
import Derived.Test.YtjbeofcgnnlllaaMResidualRoomsShown6
import Derived.Test.YtjbeofcgnnlllaaMResidualRoomsRoom
set_option linter.unusedVariables false
namespace Go.Proofs.Ytjbeofcgnnlllaa.Pure
open Go.RowKit Go.Proofs.Ytjbeofcgnnlllaa.PResidualRooms Go.Proofs.YtjbeofcgnnlllaaW.PrintWords Go.Proofs.YtjbeofcgnnlllaaW.PrintLast
theorem rooms_second {n s t : Int} {l : List S28} {room : List Int} (R : Right n s t l) (hr : room.length = 2 * l.length) (d : Nat) :
    ∀ (v : Nat) (met : List Bool), (v : Int) + d = n + 1 → 1 ≤ v → met.length = 2 * l.length → (∀ r, 0 ≤ r → rdOf false met r = true → fromOf l r < (v : Int)) →
      Ev (fun k => racewaylaw6_ResidualRooms.l1 k room met (sumTo (fun u => ((tr l u (2 * l.length)).length : Int)) (v - 1)) (v : Int) n s t l) true := by
  have hl := R.len
  have hn := R.n500
  induction d with
  | zero =>
    intro v met hv h1 hm hseen
    obtain ⟨m, rfl⟩ : ∃ m, v = m + 1 := ⟨v - 1, by omega⟩
    have hnm : n = (m : Int) := by omega
    subst hnm
    rw [show m + 1 - 1 = m by omega, tr_all R.arcs _ (Nat.le_refl _)]
    refine Ev.step (f := ?g) (fun k => ?h) ?e
    case h =>
      simp only [racewaylaw6_ResidualRooms.l1]
      rw [if_neg (by omega)]
    case e =>
      refine Ev.bind (ends_out (by omega) (by omega)) ?_
      have c : ((2 * l.length : Nat) : Int) = (room.length : Int) := by omega
      simp only [if_pos c, if_true]
      exact Ev.now true
  | succ d ih =>
    intro v met hv h1 hm hseen
    have hnv : (v : Int) ≤ n := by omega
    refine Ev.step (f := ?g2) (fun k => ?h2) ?e2
    case h2 =>
      simp only [racewaylaw6_ResidualRooms.l1]
      rw [if_pos hnv]
    case e2 =>
      refine Ev.bind (tracks_ev hl) ?_
      obtain ⟨T, hT⟩ : ∃ T, tr l (v : Int) (2 * l.length) = T := ⟨_, rfl⟩
      have hTl := tr_len (l := l) (v := (v : Int)) (2 * l.length)
      have hTs := tr_sorted (l := l) (v := (v : Int)) (2 * l.length)
      have hTm := fun r => tr_mem (l := l) (v := (v : Int)) (m := 2 * l.length) (r := r)
      obtain ⟨S0, hS0⟩ : ∃ S0 : Int, sumTo (fun u => ((tr l u (2 * l.length)).length : Int)) (v - 1) = S0 := ⟨_, rfl⟩
      have hS1 : sumTo (fun u => ((tr l u (2 * l.length)).length : Int)) v = S0 + (T.length : Int) := by
        obtain ⟨m, rfl⟩ : ∃ m, v = m + 1 := ⟨v - 1, by omega⟩
        rw [← hS0, ← hT]; rfl
      have hSb : 0 ≤ S0 ∧ S0 ≤ 2000000 * 2000 := by
        rw [← hS0]
        have : ∀ q : Nat, 0 ≤ sumTo (fun u => ((tr l u (2 * l.length)).length : Int)) q ∧ sumTo (fun u => ((tr l u (2 * l.length)).length : Int)) q ≤ 4000 * (q : Int) := by
          intro q
          induction q with
          | zero => exact ⟨Int.le_refl _, by simp [sumTo]⟩
          | succ q iq =>
            have := tr_len (l := l) (v := (q : Int) + 1) (2 * l.length)
            simp only [sumTo]; omega
        have := this (v - 1)
        omega
      rw [hS0, hT]
      rw [hT] at hTl hTs hTm
      have inner : ∀ (e : Nat) (i : Nat) (met : List Bool), i + e = T.length → met.length = 2 * l.length → (∀ r, 0 ≤ r → rdOf false met r = true → fromOf l r < (v : Int) ∨ r ∈ T.take i) →
          Ev (fun k => racewaylaw6_ResidualRooms.l2 k room met (S0 + (i : Int)) (v : Int) T (i : Int) n s t l) true := by
        intro e
        induction e with
        | zero =>
          intro i met hi hm hseen
          obtain rfl : i = T.length := by omega
          have := ih (v + 1) met (by omega) (by omega) hm (fun r h0 hr => by
            rcases hseen r h0 hr with q | q
            · omega
            · rw [List.take_length] at q
              have := (hTm r q).2.2
              omega)
          rw [show v + 1 - 1 = v by omega, hS1] at this
          refine Ev.step (fun k => ?_) this
          simp only [racewaylaw6_ResidualRooms.l2]
          rw [if_neg (by omega), wrap_succ (by omega)]
        | succ e ihe =>
          intro i met hi hm hseen
          have hiT : i < T.length := by omega
          obtain ⟨r, hr⟩ : ∃ r, T[i] = r := ⟨_, rfl⟩
          have hrm : r ∈ T := by rw [← hr]; exact List.getElem_mem hiT
          obtain ⟨q0, q1, q2⟩ := hTm r hrm
          have hnot : ¬ rdOf false met r = true := fun h => by
            rcases hseen r q0 h with q | q
            · omega
            · obtain ⟨j, hj, hje⟩ := List.getElem_of_mem q
              rw [List.getElem_take] at hje
              rw [List.length_take] at hj
              have := (List.pairwise_iff_getElem.1 hTs) j i (by omega) hiT (by omega)
              omega
          have nxt := ihe (i + 1) (met.set r.toNat true) (by omega) (by rw [List.length_set]; exact hm) (fun q h0 hq => by
            rw [rdOf_set q0 (by omega) h0] at hq
            rw [List.take_succ_eq_append_getElem hiT, hr]
            by_cases c : r = q
            · right; rw [← c]; simp
            · rw [if_neg c] at hq
              rcases hseen q h0 hq with z | z
              · exact Or.inl z
              · exact Or.inr (List.mem_append_left _ z))
          have hin : InR l r := ⟨q0, by omega⟩
          refine Ev.step (f := ?g3) (fun k => ?h3) ?e3
          case h3 =>
            simp only [racewaylaw6_ResidualRooms.l2]
            rw [if_pos (by omega), if_pos (by omega), rd_get hiT, hr]
          case e3 =>
            refine Ev.bind (ends_ev hin hl) ?_
            have k1 : r < (met.length : Int) := by omega
            simp only [if_pos q2, if_pos q0, if_pos k1, if_neg hnot]
            by_cases c : (i : Int) > 0
            · obtain ⟨j, rfl⟩ : ∃ j, i = j + 1 := ⟨i - 1, by omega⟩
              have hjT : j < T.length := by omega
              have hlt := (List.pairwise_iff_getElem.1 hTs) j (j + 1) hjT hiT (by omega)
              rw [hr] at hlt
              refine Ev.congr (fun k => ?_) nxt
              rw [if_pos c, wrap_id (x := ((j + 1 : Nat) : Int) - 1) (by omega) (by omega), show ((j + 1 : Nat) : Int) - 1 = (j : Int) by omega, if_pos (by omega), if_pos (by omega), rd_get hjT, if_neg (by omega), wrap_succ (by omega),
                wrap_id (x := S0 + ((j + 1 : Nat) : Int) + 1) (by omega) (by omega), show S0 + ((j + 1 : Nat) : Int) + 1 = S0 + ((j + 1 + 1 : Nat) : Int) by omega]
            · refine Ev.congr (fun k => ?_) nxt
              rw [if_neg c, wrap_succ (by omega), wrap_id (x := S0 + (i : Int) + 1) (by omega) (by omega), show S0 + (i : Int) + 1 = S0 + ((i + 1 : Nat) : Int) by omega]
      have := inner T.length 0 met (by omega) hm (fun r h0 hq => Or.inl (hseen r h0 hq))
      rw [show S0 + ((0 : Nat) : Int) = S0 by omega] at this
      exact this
theorem rooms_first {n s t : Int} {l : List S28} {f : List Int} (R : Right n s t l) (F : IsFlow n s t l f) (hcap : ∀ a ∈ l, a.f2 < 1000000000000) (d : Nat) :
    ∀ i : Nat, i + d = l.length → Ev (fun k => racewaylaw6_ResidualRooms.l0 k f (roomOf l f) (i : Int) n s t l) true := by
  have hl := R.len
  have hlen := F.within.len
  have hr := roomOf_len hlen
  induction d with
  | zero =>
    intro i hi
    have h2 := rooms_second (room := roomOf l f) R hr n.toNat 1 (List.replicate (roomOf l f).length false) (by have := R.n2; omega) (by omega) (by rw [List.length_replicate]; exact hr) (fun r h0 h => by
      unfold rdOf at h
      rw [List.getD_eq_getElem?_getD, List.getElem?_replicate] at h
      split at h <;> cases h)
    refine Ev.step (fun k => ?_) h2
    simp only [racewaylaw6_ResidualRooms.l0]
    rw [if_neg (by omega), if_pos (by omega), if_pos (by omega), show (((roomOf l f).length : Int)).toNat = (roomOf l f).length by omega]
    rfl
  | succ d ih =>
    intro i hi
    have hil : i < l.length := by omega
    have e0 : InR l (2 * (i : Int)) := ⟨by omega, by omega⟩
    have e1 : InR l (2 * (i : Int) + 1) := ⟨by omega, by omega⟩
    obtain ⟨r0, r1⟩ := roomOf_rd F.within hcap (i := (i : Int)) (by omega) (by omega)
    have hc := hcap _ (rdT_mem (l := l) (i := (i : Int)) (by omega) (by omega))
    have hb := within_rd F.within (i := (i : Int)) (by omega) (by omega)
    have a0 : fromOf l (2 * (i : Int)) = (rd_T28 l (i : Int)).f0 ∧ toOf l (2 * (i : Int)) = (rd_T28 l (i : Int)).f1 := by
      unfold fromOf toOf
      rw [if_neg (by omega), if_neg (by omega), show (2 * (i : Int)) / 2 = (i : Int) by omega]
      exact ⟨rfl, rfl⟩
    have a1 : fromOf l (2 * (i : Int) + 1) = (rd_T28 l (i : Int)).f1 ∧ toOf l (2 * (i : Int) + 1) = (rd_T28 l (i : Int)).f0 := by
      unfold fromOf toOf
      rw [if_pos (by omega), if_pos (by omega), show (2 * (i : Int) + 1) / 2 = (i : Int) by omega]
      exact ⟨rfl, rfl⟩
    refine Ev.step (f := ?g) (fun k => ?h) ?e
    case h =>
      simp only [racewaylaw6_ResidualRooms.l0]
      rw [if_pos (by omega), wrap_id (x := 2 * (i : Int)) (by omega) (by omega), wrap_id (x := 2 * (i : Int) + 1) (by omega) (by omega)]
    case e =>
      refine Ev.bind (ends_ev e0 hl) (Ev.bind (ends_ev e1 hl) ?_)
      simp only [a0.1, a0.2, a1.1, a1.2, r0, r1]
      refine Ev.congr (fun k => ?_) (ih (i + 1) (by omega))
      rw [if_pos (by omega), if_pos (by omega), if_pos (by omega), if_pos (by omega), if_pos (by omega), wrap_id (by omega) (by omega), if_pos (by omega), if_pos (by omega)]
      simp only [if_true]
      rw [wrap_succ (by omega)]
theorem ResidualRooms : racewaylaw6_ResidualRooms.Pure := by
  intro a0 a1 l2 l3 w0 w1 m2 w2 m3 y3 w3
  obtain ⟨n, s, t, l, hmade, n2, n9, R, hl, _, hcap⟩ := made_ev w0 w1 w2
  have hcap' : ∀ a ∈ l, a.f2 < 1000000000000 := fun a ha => by have := hcap a ha; omega
  obtain ⟨f, F, _, hrout⟩ := routed_ev (raws := l3) R hcap' w3
  have hr := roomOf_len F.within.len
  refine Ev.rounds ?_
  unfold racewaylaw6_ResidualRooms.f
  refine Ev.bind shown_ev ?_
  simp only [if_true]
  refine Ev.bind hmade (Ev.bind hrout (Ev.bind (room_ev R F) ?_))
  simp only [if_true]
  refine Ev.step (fun k => ?_) (rooms_first R F hcap' l.length 0 (by omega))
  simp only [racewaylaw6_ResidualRooms.j0]
  rw [wrap_id (by omega) (by omega), if_neg (by simp; omega)]
  rfl
end Go.Proofs.Ytjbeofcgnnlllaa.Pure
