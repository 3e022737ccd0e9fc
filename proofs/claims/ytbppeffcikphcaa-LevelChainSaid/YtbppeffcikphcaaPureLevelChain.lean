/- Plain lists and numbers, for the law LevelChain: no program and no memory. -/
import Derived.Test.YtbppeffcikphcaaPLevelChainx0
import Derived.Test.YtbppeffcikphcaaPLevelChainx6
import Derived.Test.YtbppeffcikphcaaPLevelChainx12
import Derived.Test.YtbppeffcikphcaaMLevelChainAll
set_option linter.unusedVariables false
namespace Go.Proofs.Ytbppeffcikphcaa.Pure
open Go.RowKit Go.Proofs.Ytbppeffcikphcaa.PLevelChain Go.Proofs.YtbppeffcikphcaaW.PrintWords Go.Proofs.YtbppeffcikphcaaW.PrintLast
/-- A chain of arcs. -/
def chain (raws : List Int) : Nat → List S49
  | 0 => []
  | i + 1 => chain raws i ++ [⟨(i : Int) + 1, (i : Int) + 2, pk (rd raws (i : Int)) 20⟩]
theorem chain_len (raws : List Int) : ∀ i, (chain raws i).length = i
  | 0 => rfl
  | i + 1 => by rw [chain, List.length_append, chain_len raws i]; rfl
theorem chain_get (raws : List Int) : ∀ {i j : Nat}, j < i → (chain raws i)[j]? = some ⟨(j : Int) + 1, (j : Int) + 2, pk (rd raws (j : Int)) 20⟩
  | 0, _, h => by omega
  | i + 1, j, h => by
    have hl := chain_len raws i
    rw [chain]
    by_cases c : j < i
    · rw [List.getElem?_append_left (by omega)]
      exact chain_get raws c
    · have e : j = i := by omega
      subst e
      rw [List.getElem?_append_right (by omega), hl, Nat.sub_self]
      rfl
theorem chain_rd {raws : List Int} {i : Nat} {j : Int} (h0 : 0 ≤ j) (h : j < (i : Int)) : rd_T49 (chain raws i) j = ⟨j + 1, j + 2, pk (rd raws j) 20⟩ := by
  obtain ⟨q, rfl⟩ : ∃ q : Nat, j = (q : Int) := ⟨j.toNat, by omega⟩
  unfold rd_T49
  rw [List.getD_eq_getElem?_getD, Int.toNat_natCast, chain_get raws (by omega)]
  rfl
theorem chain_good (raws : List Int) {n : Int} : ∀ (i : Nat), (i : Int) + 1 ≤ n → (∀ a ∈ chain raws i, GoodArc n a ∧ a.f2 < 20) ∧ sumCap (chain raws i) ≤ 20 * (i : Int)
  | 0, _ => ⟨fun a ha => by (cases ha), by simp [chain, sumCap]⟩
  | i + 1, h => by
    obtain ⟨h1, h2⟩ := chain_good raws (n := n) i (by omega)
    have p := pk_range (c := rd raws (i : Int)) (n := 20) (by decide)
    refine ⟨fun a ha => ?_, ?_⟩
    · rcases List.mem_append.1 ha with ha | ha
      · exact h1 a ha
      · obtain rfl := List.mem_singleton.1 ha
        simp only [GoodArc]
        omega
    · rw [chain, sumCap_app]
      simp only [sumCap]
      omega
/-- The first arc of a capacity below 'least' is C, or there is none and C is the count. -/
structure Low (raws : List Int) (least : Int) (m : Nat) (C : Int) : Prop where
  c0 : 0 ≤ C
  cm : C ≤ (m : Int)
  hi : ∀ j : Int, 0 ≤ j → j < C → least ≤ pk (rd raws j) 20
  lo : C < (m : Int) → pk (rd raws C) 20 < least
section
variable {least C : Int} {m : Nat} {raws up : List Int}
theorem chain_ends {r : Int} (h : InR (chain raws m) r) : (r % 2 = 0 ∧ fromOf (chain raws m) r = r / 2 + 1 ∧ toOf (chain raws m) r = r / 2 + 2 ∨ r % 2 = 1) ∧ r / 2 < (m : Int) ∧ 0 ≤ r / 2 := by
  obtain ⟨h0, h1⟩ := h
  rw [chain_len] at h1
  have h2 : r / 2 < (m : Int) := by omega
  refine ⟨?_, h2, by omega⟩
  by_cases c : r % 2 = 1
  · exact .inr c
  · left
    refine ⟨by omega, ?_, ?_⟩
    · unfold fromOf
      rw [if_neg c, chain_rd (by omega) h2]
    · unfold toOf
      rw [if_neg c, chain_rd (by omega) h2]
theorem chain_room (hm : m ≤ 100) {i : Int} (h0 : 0 ≤ i) (h1 : i < (m : Int)) : rd (roomOf (chain raws m) (List.replicate m 0)) (2 * i) = pk (rd raws i) 20 ∧ rd (roomOf (chain raws m) (List.replicate m 0)) (2 * i + 1) = 0 := by
  have hl := chain_len raws m
  have hg := (chain_good raws (n := (m : Int) + 1) m (Int.le_refl _)).1
  have W : Within (chain raws m) (List.replicate (chain raws m).length 0) := Within.zeros (fun a ha => (hg a ha).1.2.2.2.2)
  rw [hl] at W
  obtain ⟨a, b⟩ := roomOf_rd W (fun a ha => by have := (hg a ha).2; omega) (i := i) h0 (by rw [hl]; exact h1)
  rw [chain_rd h0 h1, rd_replicate] at a
  rw [rd_replicate] at b
  refine ⟨by rw [a]; show pk (rd raws i) 20 - 0 = _; omega, b⟩
theorem chain_even (hm : m ≤ 100) (hl : 1 ≤ least) {r : Int} (h : InR (chain raws m) r) (hroom : least ≤ rd (roomOf (chain raws m) (List.replicate m 0)) r) : r % 2 = 0 ∧ fromOf (chain raws m) r = r / 2 + 1 ∧ toOf (chain raws m) r = r / 2 + 2 ∧ least ≤ pk (rd raws (r / 2)) 20 := by
  obtain ⟨e, h1, h2⟩ := chain_ends h
  obtain ⟨a, b⟩ := chain_room (raws := raws) hm h2 h1
  rcases e with ⟨e0, e1, e2⟩ | e
  · rw [show 2 * (r / 2) = r by omega] at a
    rw [a] at hroom
    exact ⟨e0, e1, e2, hroom⟩
  · rw [show 2 * (r / 2) + 1 = r by omega] at b
    rw [b] at hroom
    omega
theorem chain_up (hm : m ≤ 100) (hl : 1 ≤ least) (L : Low raws least m C) (U : IsUp ((m : Int) + 1) 1 (chain raws m) (roomOf (chain raws m) (List.replicate m 0)) least up) : ∀ v : Nat, (v : Int) ≤ m →
    rd up ((v : Int) + 1) = if (v : Int) ≤ C then (v : Int) else -1
  | 0, _ => by
    rw [if_pos (show ((0 : Nat) : Int) ≤ C from L.c0)]
    exact U.src
  | v + 1, hv => by
    have ih := chain_up hm hl L U v (by omega)
    have hlen := chain_len raws m
    have q : InR (chain raws m) (2 * (v : Int)) := ⟨by omega, by rw [hlen]; omega⟩
    obtain ⟨e, _, _⟩ := chain_ends q
    have e0 : 2 * (v : Int) / 2 = (v : Int) := by omega
    rw [e0] at e
    have hro := (chain_room (raws := raws) hm (i := (v : Int)) (by omega) (by omega)).1
    have ez := U.rng (((v + 1 : Nat) : Int) + 1) (by omega) (by omega)
    have nz : rd up (((v + 1 : Nat) : Int) + 1) ≠ 0 := fun h => by
      have := U.zero _ (by omega) (by omega) h
      omega
    have pr : 0 < rd up (((v + 1 : Nat) : Int) + 1) → least ≤ pk (rd raws (v : Int)) 20 ∧ rd up ((v : Int) + 1) = rd up (((v + 1 : Nat) : Int) + 1) - 1 := fun h => by
      obtain ⟨r, hr, hroom, ht, hf⟩ := U.pred _ (by omega) (by omega) h
      obtain ⟨c0, c1, c2, c3⟩ := chain_even hm hl hr hroom
      have er : r / 2 = (v : Int) := by omega
      rw [er] at c1 c3
      rw [c1] at hf
      exact ⟨c3, hf⟩
    by_cases c : ((v + 1 : Nat) : Int) ≤ C
    · rw [if_pos c]
      rw [if_pos (by omega)] at ih
      have hst := U.step _ q (by rw [hro]; exact L.hi _ (by omega) (by omega))
      rcases e with ⟨_, e1, e2⟩ | e
      · rw [e1, e2, ih] at hst
        have e3 : (v : Int) + 2 = ((v + 1 : Nat) : Int) + 1 := by omega
        rw [e3] at hst
        have h1 := hst (by omega)
        have h2 := pr (by omega)
        rw [ih] at h2
        omega
      · omega
    · rw [if_neg c]
      rcases ez with h | h
      · exact h
      · exfalso
        obtain ⟨h1, h2⟩ := pr (by omega)
        by_cases c2 : (v : Int) ≤ C
        · have e4 : C = (v : Int) := by omega
          have := L.lo (by omega)
          rw [e4] at this
          omega
        · rw [if_neg c2] at ih
          omega
theorem chain_ld (hm : m ≤ 100) (hl : 1 ≤ least) (L : Low raws least m C) (U : IsUp ((m : Int) + 1) 1 (chain raws m) (roomOf (chain raws m) (List.replicate m 0)) least up) : ∀ i : Nat, (i : Int) ≤ m →
    ((ld (chain raws m) (roomOf (chain raws m) (List.replicate m 0)) least up (2 * i)).length : Int) = if (i : Int) ≤ C then (i : Int) else C
  | 0, _ => by
    rw [if_pos (show ((0 : Nat) : Int) ≤ C from L.c0)]
    rfl
  | i + 1, hi => by
    have ih := chain_ld hm hl L U i (by omega)
    have hlen := chain_len raws m
    have q0 : InR (chain raws m) (2 * (i : Int)) := ⟨by omega, by rw [hlen]; omega⟩
    obtain ⟨e, _, _⟩ := chain_ends q0
    have e0 : 2 * (i : Int) / 2 = (i : Int) := by omega
    rw [e0] at e
    obtain ⟨r0, r1⟩ := chain_room (raws := raws) hm (i := (i : Int)) (by omega) (by omega)
    have u0 := chain_up hm hl L U i (by omega)
    have u1 := chain_up hm hl L U (i + 1) hi
    have e2 : 2 * (i + 1) = 2 * i + 1 + 1 := by omega
    have k0 : ((2 * i : Nat) : Int) = 2 * (i : Int) := by omega
    have k1 : ((2 * i + 1 : Nat) : Int) = 2 * (i : Int) + 1 := by omega
    have k2 : ((i + 1 : Nat) : Int) + 1 = (i : Int) + 2 := by omega
    rw [k2] at u1
    have hodd : ¬ (least ≤ 0 ∧ rd up (fromOf (chain raws m) (2 * (i : Int) + 1)) ≠ -1 ∧ rd up (toOf (chain raws m) (2 * (i : Int) + 1)) = rd up (fromOf (chain raws m) (2 * (i : Int) + 1)) + 1) := fun h => by
      have := h.1
      omega
    rw [e2, ld, List.length_append, ld, List.length_append, k0, k1, r0, r1, if_neg hodd]
    rcases e with ⟨_, f1, f2⟩ | e
    · rw [f1, f2]
      by_cases c : (i : Int) < C
      · rw [if_pos (by omega)] at u0 u1 ih
        rw [if_pos ⟨L.hi _ (by omega) c, by rw [u0]; omega, by rw [u0, u1]; omega⟩, if_pos (by omega)]
        simp only [List.length_singleton, List.length_nil]
        omega
      · have hno : ¬ (least ≤ pk (rd raws (i : Int)) 20 ∧ rd up ((i : Int) + 1) ≠ -1 ∧ rd up ((i : Int) + 2) = rd up ((i : Int) + 1) + 1) := fun h => by
          by_cases c2 : (i : Int) ≤ C
          · have e4 : C = (i : Int) := by omega
            have h1 := L.lo (by omega)
            have h2 := h.1
            rw [e4] at h1
            omega
          · rw [if_neg c2] at u0
            exact h.2.1 u0
        rw [if_neg hno, if_neg (by omega)]
        simp only [List.length_nil]
        by_cases c2 : (i : Int) ≤ C
        · rw [if_pos c2] at ih; omega
        · rw [if_neg c2] at ih; omega
    · omega
end
theorem chain_l1 {least C n s t : Int} {m : Nat} {raws up : List Int} {l : List S49} (hm : m ≤ 100) (hn : n = (m : Int) + 1) (hC : 0 ≤ C ∧ C ≤ (m : Int)) (hul : (up.length : Int) = n + 1) (hup : ∀ v : Nat, (v : Int) ≤ m → rd up ((v : Int) + 1) = if (v : Int) ≤ C then (v : Int) else -1) (d : Nat) :
    ∀ v : Nat, v + d = m + 1 → Ev (fun k => racewaylaw7_LevelChain.l1 k C up ((v : Int) + 1) n s t l) true := by
  induction d with
  | zero =>
    intro v hv
    refine Ev.step (f := fun _ => some true) (fun k => ?_) (Ev.now _)
    simp only [racewaylaw7_LevelChain.l1]
    rw [if_neg (by omega)]
  | succ d ih =>
    intro v hv
    have w1 : wrap64 ((v : Int) + 1 - 1) = (v : Int) := by rw [wrap_id (by omega) (by omega)]; omega
    have w2 : wrap64 ((v : Int) + 1 + 1) = ((v + 1 : Nat) : Int) + 1 := wrap_id (by omega) (by omega)
    have g0 : (v : Int) + 1 ≤ n := by omega
    have g1 : (0 : Int) ≤ (v : Int) + 1 := by omega
    have g2 : (v : Int) + 1 < (up.length : Int) := by omega
    have hu := hup v (by omega)
    refine Ev.step (fun k => ?_) (ih (v + 1) (by omega))
    simp only [racewaylaw7_LevelChain.l1]
    rw [if_pos g0, w1, w2]
    by_cases c : (v : Int) ≤ C
    · rw [if_pos c] at hu
      rw [if_neg (by omega), if_pos g1, if_pos g2, if_pos hu]
    · rw [if_neg c] at hu
      rw [if_pos (by omega), if_pos g1, if_pos g2, if_pos hu]
theorem chain_l0 {least n s t : Int} {m : Nat} {raws : List Int} (hm : m ≤ 100) (hml : raws.length = m) (hw : ∀ x ∈ raws, (Lit.int .i64 x).wf = true)
    (H : ∀ C, Low raws least m C → Ev (fun k => racewaylaw7_LevelChain.l0 k raws least C (m : Int) n s t (chain raws m)) true) (d : Nat) :
    ∀ (i : Nat) (C : Int), i + d = m → 0 ≤ C → C ≤ (m : Int) → (∀ j : Int, 0 ≤ j → j < C → j < (i : Int) → least ≤ pk (rd raws j) 20) → (C < (m : Int) → C < (i : Int) ∧ pk (rd raws C) 20 < least) →
      Ev (fun k => racewaylaw7_LevelChain.l0 k raws least C (i : Int) n s t (chain raws i)) true := by
  induction d with
  | zero =>
    intro i C hi h0 h1 h2 h3
    have e : i = m := by omega
    subst e
    exact H C ⟨h0, h1, fun j a b => h2 j a b (by omega), fun c => (h3 c).2⟩
  | succ d ih =>
    intro i C hi h0 h1 h2 h3
    have him : i < m := by omega
    have g0 : (i : Int) < (raws.length : Int) := by omega
    have g1 : (0 : Int) ≤ (i : Int) := by omega
    have hcl := chain_len raws i
    have g2 : (chain raws i).length < 5864062014805 := by omega
    have w1 : wrap64 ((i : Int) + 1) = (i : Int) + 1 := wrap_id (by omega) (by omega)
    have w2 : wrap64 ((i : Int) + 2) = (i : Int) + 2 := wrap_id (by omega) (by omega)
    have w3 : ((i + 1 : Nat) : Int) = (i : Int) + 1 := by omega
    have i2 : i + 1 + d = m := by omega
    have hlo : pk (rd raws (i : Int)) 20 < least → (mn C (i : Int) = C ∧ C < (m : Int)) ∨ (mn C (i : Int) = (i : Int) ∧ C = (m : Int)) := fun _ => by
      by_cases c : C < (m : Int)
      · have := (h3 c).1
        left
        unfold mn
        rw [if_neg (by omega)]
        exact ⟨rfl, c⟩
      · right
        unfold mn
        rw [if_pos (by omega)]
        exact ⟨rfl, by omega⟩
    obtain ⟨b0, b1⟩ := wf_bounds (hw (rd raws (i : Int)) (rd_mem g1 g0))
    have hp := pick_eq (c := rd raws (i : Int)) (n := 20) b0 b1 (by decide)
    clear b0 b1
    by_cases c : pk (rd raws (i : Int)) 20 < least
    · refine Ev.step (fun k => ?_) (ih (i + 1) (mn C (i : Int)) i2 ?_ ?_ ?_ ?_)
      · simp only [racewaylaw7_LevelChain.l0]
        rw [if_pos g0, if_pos g1, hp]
        simp only [Option.bind_some]
        rw [if_pos g2, if_pos c, w1, w2, w3]
        rfl
      · rcases hlo c with ⟨e, _⟩ | ⟨e, _⟩ <;> rw [e] <;> omega
      · rcases hlo c with ⟨e, _⟩ | ⟨e, _⟩ <;> rw [e] <;> omega
      · intro j j0 j1 j2
        rcases hlo c with ⟨e, _⟩ | ⟨e, e2⟩
        · rw [e] at j1
          have := (h3 (by omega)).1
          exact h2 j j0 j1 (by omega)
        · rw [e] at j1
          exact h2 j j0 (by omega) j1
      · intro _
        rcases hlo c with ⟨e, e2⟩ | ⟨e, e2⟩
        · rw [e]
          have := h3 e2
          exact ⟨by omega, this.2⟩
        · rw [e]
          exact ⟨by omega, c⟩
    · refine Ev.step (fun k => ?_) (ih (i + 1) C i2 h0 h1 ?_ ?_)
      · simp only [racewaylaw7_LevelChain.l0]
        rw [if_pos g0, if_pos g1, hp]
        simp only [Option.bind_some]
        rw [if_pos g2, if_neg c, w1, w2, w3]
        rfl
      · intro j j0 j1 j2
        by_cases e : j = (i : Int)
        · rw [e]; omega
        · exact h2 j j0 j1 (by omega)
      · intro hc
        have := h3 hc
        exact ⟨by omega, this.2⟩
theorem LevelChain : racewaylaw7_LevelChain.Pure := by
  intro raws a1 m2 y2 hw w1
  refine Ev.rounds ?_
  unfold racewaylaw7_LevelChain.f
  refine Ev.bind shown7_ev ?_
  simp only [if_true]
  have hbad : Ev (fun k => racewaylaw7_LevelChain.j0 k raws a1 true true) true := by
    refine Ev.step (f := fun _ => some true) (fun k => ?_) (Ev.now _)
    simp only [racewaylaw7_LevelChain.j0]
    rw [if_pos trivial]
  by_cases c0 : (raws.length : Int) = 0
  · simp only [if_pos c0]
    exact hbad
  · simp only [if_neg c0]
    by_cases c1 : (raws.length : Int) > 100
    · rw [decide_eq_true c1]
      exact hbad
    · rw [decide_eq_false c1]
      obtain ⟨m, hml⟩ : ∃ m, raws.length = m := ⟨_, rfl⟩
      have hm : m ≤ 100 := by omega
      have hm1 : 1 ≤ m := by omega
      obtain ⟨b0, b1⟩ := wf_bounds w1
      have hp := pick_eq (c := a1) (n := 9) b0 b1 (by decide)
      have p := pk_range (c := a1) (n := 9) (by decide)
      clear b0 b1 w1 m2 y2 c0 c1
      obtain ⟨least, hle⟩ : ∃ least, 1 + pk a1 9 = least := ⟨_, rfl⟩
      have hl1 : 1 ≤ least := by omega
      have hwl : wrap64 (1 + pk a1 9) = least := by rw [wrap_id (by omega) (by omega)]; exact hle
      clear p hle
      have hwm : wrap64 ((m : Int) + 1) = (m : Int) + 1 := wrap_id (by omega) (by omega)
      have hcl := chain_len raws m
      obtain ⟨hgood, hsum⟩ := chain_good raws (n := (m : Int) + 1) m (Int.le_refl _)
      have R : Right ((m : Int) + 1) 1 ((m : Int) + 1) (chain raws m) := ⟨by omega, by omega, by decide, by omega, by omega, Int.le_refl _, by omega, by omega, fun a ha => (hgood a ha).1, by omega⟩
      have F := IsFlow.zeros (n := (m : Int) + 1) (s := 1) (t := (m : Int) + 1) R.arcs
      rw [hcl] at F
      obtain ⟨up, hup, U⟩ := levels_ev R F hl1
      have hlead := leads_ev R F hup U
      rw [hcl] at hlead
      have H : ∀ C, Low raws least m C → Ev (fun k => racewaylaw7_LevelChain.l0 k raws least C (m : Int) ((m : Int) + 1) 1 ((m : Int) + 1) (chain raws m)) true := fun C L => by
        have hld := chain_ld hm hl1 L U m (Int.le_refl _)
        have hld2 : ((ld (chain raws m) (roomOf (chain raws m) (List.replicate m 0)) least up (2 * m)).length : Int) = C := by
          rw [hld]
          have := L.cm
          split <;> omega
        have L1 := chain_l1 (least := least) (raws := raws) (s := 1) (t := (m : Int) + 1) (l := chain raws m) hm rfl ⟨L.c0, L.cm⟩ U.len (chain_up hm hl1 L U) (m + 1) 0 (by omega)
        refine Ev.step (f := ?g) (fun k => ?h) ?e
        case h =>
          simp only [racewaylaw7_LevelChain.l0, hml]
          rw [if_neg (by omega), if_pos (by omega), if_pos (by omega), Int.toNat_natCast]
        case e =>
          refine Ev.bind hup (Ev.bind hlead ?_)
          simp only [if_true, hld2, bne_self_eq_false]
          refine Ev.step (fun k => ?_) L1
          simp only [racewaylaw7_LevelChain.j2]
          rw [if_neg (by decide)]
          rfl
      refine Ev.step (f := ?g2) (fun k => ?h2) ?e2
      case h2 =>
        simp only [racewaylaw7_LevelChain.j0, hp, hml, Option.bind_some, hwl, hwm]
        rw [if_neg (by decide)]
      case e2 =>
        exact chain_l0 hm hml hw H m 0 (m : Int) (by omega) (by omega) (Int.le_refl _) (fun j a b c => by omega) (fun h => by omega)
end Go.Proofs.Ytbppeffcikphcaa.Pure
