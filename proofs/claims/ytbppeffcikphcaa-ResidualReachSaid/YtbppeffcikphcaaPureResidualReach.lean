/- Plain lists and numbers, for the law ResidualReach: no program and no memory. -/
import Derived.Test.YtbppeffcikphcaaPResidualReachx0
import Derived.Test.YtbppeffcikphcaaPResidualReachx6
import Derived.Test.YtbppeffcikphcaaPResidualReachx14
import Derived.Test.YtbppeffcikphcaaPResidualReachx15
import Derived.Test.YtbppeffcikphcaaMResidualReachAll
set_option linter.unusedVariables false
namespace Go.Proofs.Ytbppeffcikphcaa.Pure
open Go.RowKit Go.Proofs.Ytbppeffcikphcaa.PResidualReach Go.Proofs.YtbppeffcikphcaaW.PrintWords Go.Proofs.YtbppeffcikphcaaW.PrintLast
theorem flip_flip {r : Int} (_h : 0 ≤ r) : flip (flip r) = r := by unfold flip; split <;> split <;> omega
section
variable {n s t least : Int} {l : List S49} {room : List Int} {met met2 : List Bool}
theorem rr_pred (hg : ∀ a ∈ l, GoodArc n a) (M : IsMet n s l room least met) {v : Int} (v0 : 0 ≤ v) (vn : v ≤ n) (hm : rdOf false met v = true) (hv : v ≠ s) : ∃ r, InR l r ∧ least ≤ rd room r ∧ toOf l r = v ∧ rdOf false met (fromOf l r) = true := by
  have h := M.min (fun u => u = s ∨ rdOf false met u = true ∧ ∃ r, InR l r ∧ least ≤ rd room r ∧ toOf l r = u ∧ rdOf false met (fromOf l r) = true) (.inl rfl) (fun r hr hroom hp => by
    have hmf : rdOf false met (fromOf l r) = true := by
      rcases hp with e | e
      · rw [e]; exact M.src
      · exact e.1
    exact .inr ⟨M.step r hr hroom hmf, r, hr, hroom, rfl, hmf⟩) v v0 vn hm
  rcases h with h | h
  · exact absurd h hv
  · exact h.2
theorem rr_l1 (R : Right n s t l) (hl : l.length ≤ 24) (hlr : room.length = 2 * l.length) (M : IsMet n s l room least met) {v : Int} {T : List Int} (v1 : 1 ≤ v) (vn : v ≤ n) (hTl : T.length ≤ 48) (hT : ∀ r ∈ T, InR l r ∧ fromOf l r = v)
    (hnext : Ev (fun k => racewaylaw6_ResidualReach.l0 k least room met met2 (v + 1) n s t l) true) (d : Nat) :
    ∀ (i : Nat) (b : Bool), i + d = T.length → (b = true ∨ rdOf false met v = false ∨ ∃ j : Nat, i ≤ j ∧ ∃ h : j < T.length, rdOf false met (toOf l T[j]) = true ∧ least ≤ rd room (flip T[j])) →
      Ev (fun k => racewaylaw6_ResidualReach.l1 k least room met met2 v b T (i : Int) n s t l) true := by
  have hml := M.len
  have hn := R.n500
  have hw : wrap64 (v + 1) = v + 1 := wrap_id (by omega) (by omega)
  have g0 : 0 ≤ v := by omega
  have g1 : v < (met.length : Int) := by omega
  induction d with
  | zero =>
    intro i b hi hb
    refine Ev.step (fun k => ?_) hnext
    simp only [racewaylaw6_ResidualReach.l1]
    rw [if_neg (by omega), if_pos g0, if_pos g1, hw]
    rcases hb with hb | hb | ⟨j, hj, h, _⟩
    · subst hb
      split <;> rfl
    · rw [hb]
      rfl
    · omega
  | succ d ih =>
    intro i b hi hb
    have hil : i < T.length := by omega
    have i1 : ∀ j : Nat, i ≤ j → ¬ j = i → i + 1 ≤ j := fun j a c => by clear hb hT; omega
    have i2 : i + 1 + d = T.length := by omega
    have p4 : (i : Int) < (T.length : Int) := by omega
    have p5 : (0 : Int) ≤ (i : Int) := by omega
    have hwi : wrap64 ((i : Int) + 1) = ((i + 1 : Nat) : Int) := wrap_succ (by omega)
    obtain ⟨r, hrd⟩ : ∃ r, T[i] = r := ⟨_, rfl⟩
    obtain ⟨hr, hfrom⟩ := hT T[i] (List.getElem_mem hil)
    rw [hrd] at hr hfrom
    obtain ⟨_, _, t1, tn⟩ := ends_range R.arcs hr
    have hr0 := hr.1
    have hr1 := hr.2
    have hx : Go.bits .xor .i64 r 1 = flip r := xor_flip hr0 (by omega)
    have hfi := flip_inr hr
    have hfi0 := hfi.1
    have hfi1 := hfi.2
    have hrT : rd T (i : Int) = r := by rw [rd_get hil]; exact hrd
    have p0 : 0 ≤ toOf l r := by omega
    have p1 : toOf l r < (met.length : Int) := by omega
    have p2 : r < (room.length : Int) := by omega
    have p3 : flip r < (room.length : Int) := by omega
    have hb2 : (b || (rdOf false met (toOf l r) && decide (rd room (flip r) ≥ least))) = true ∨ rdOf false met v = false ∨ ∃ j : Nat, i + 1 ≤ j ∧ ∃ h : j < T.length, rdOf false met (toOf l T[j]) = true ∧ least ≤ rd room (flip T[j]) := by
      rcases hb with hb | hb | ⟨j, hj, h, ha, hc⟩
      · left; rw [hb]; rfl
      · exact .inr (.inl hb)
      · by_cases e : j = i
        · subst e
          rw [hrd] at ha hc
          left
          rw [ha, decide_eq_true hc]
          cases b <;> rfl
        · exact .inr (.inr ⟨j, i1 j hj e, h, ha, hc⟩)
    have hstep := fun h1 h2 => M.step r hr h1 (by rw [hfrom]; exact h2)
    have hih := ih (i + 1) _ i2 hb2
    clear ih hb hb2 hTl hT hnext M
    refine Ev.step (f := ?g) (fun k => ?h) ?e
    case h =>
      simp only [racewaylaw6_ResidualReach.l1]
      rw [if_pos p4, if_pos p5, hrT]
    case e =>
      refine Ev.bind (ends_ev hr R.len) ?_
      refine Ev.congr (fun k => ?_) hih
      simp only [if_pos g0, if_pos g1, if_pos hr0, if_pos p2, if_pos p0, if_pos p1, hx, if_pos hfi0, if_pos p3, hwi]
      cases b with
      | true =>
        simp only [Bool.true_or, if_true]
        by_cases c1 : rdOf false met v = true
        · rw [if_pos c1]
          by_cases c2 : rd room r ≥ least
          · rw [if_pos c2, if_pos (hstep c2 c1)]
          · rw [if_neg c2]
        · rw [if_neg c1]
      | false =>
        simp only [Bool.false_or, Bool.false_eq_true, if_false]
        by_cases c3 : rdOf false met (toOf l r) = true
        · simp only [c3, Bool.true_and, if_true]
          by_cases c1 : rdOf false met v = true
          · rw [if_pos c1]
            by_cases c2 : rd room r ≥ least
            · rw [if_pos c2]
            · rw [if_neg c2]
          · rw [if_neg c1]
        · have c4 : rdOf false met (toOf l r) = false := by cases e : rdOf false met (toOf l r) with
            | true => exact absurd e c3
            | false => rfl
          simp only [c4, Bool.false_and, Bool.false_eq_true, if_false]
          by_cases c1 : rdOf false met v = true
          · rw [if_pos c1]
            by_cases c2 : rd room r ≥ least
            · exact absurd (hstep c2 c1) c3
            · rw [if_neg c2]
          · rw [if_neg c1]
theorem rr_l0 (R : Right n s t l) (hl : l.length ≤ 24) (hlr : room.length = 2 * l.length) (M : IsMet n s l room least met) (hlen2 : (met2.length : Int) = n + 1) (hsub : ∀ v, 0 ≤ v → v ≤ n → rdOf false met2 v = true → rdOf false met v = true) (d : Nat) :
    ∀ v : Int, 1 ≤ v → v + d = n + 1 → Ev (fun k => racewaylaw6_ResidualReach.l0 k least room met met2 v n s t l) true := by
  have hml := M.len
  have hn := R.n500
  induction d with
  | zero =>
    intro v v1 hv
    refine Ev.step (f := fun _ => some true) (fun k => ?_) (Ev.now _)
    simp only [racewaylaw6_ResidualReach.l0]
    rw [if_neg (by omega)]
  | succ d ih =>
    intro v v1 hv
    have vn : v ≤ n := by omega
    have v0 : 0 ≤ v := by omega
    have g1 : v < (met.length : Int) := by omega
    have g2 : v < (met2.length : Int) := by omega
    obtain ⟨T, hT, hTl, hTm, hTa⟩ := from_all (n := n) (s := s) (t := t) (v := v) (l := l) (by omega)
    have hstart : (v == s) = true ∨ rdOf false met v = false ∨ ∃ j : Nat, 0 ≤ j ∧ ∃ h : j < T.length, rdOf false met (toOf l T[j]) = true ∧ least ≤ rd room (flip T[j]) := by
      by_cases c : v = s
      · left; rw [c]; simp
      · cases e : rdOf false met v with
        | false => exact .inr (.inl rfl)
        | true =>
          obtain ⟨r, hr, hroom, hto, hmf⟩ := rr_pred R.arcs M v0 vn e c
          obtain ⟨e1, e2⟩ := flip_ends (l := l) hr.1
          have hm := hTa (flip r) (flip_inr hr) (by rw [e1]; exact hto)
          obtain ⟨j, hj, hje⟩ := List.getElem_of_mem hm
          exact .inr (.inr ⟨j, Nat.zero_le _, hj, by rw [hje, e2]; exact hmf, by rw [hje, flip_flip hr.1]; exact hroom⟩)
    have L1 := rr_l1 (met2 := met2) R hl hlr M v1 vn (by omega) hTm (ih (v + 1) (by omega) (by omega)) T.length 0 (v == s) (by omega) hstart
    have J2 : Ev (fun k => racewaylaw6_ResidualReach.j2 k least room met met2 v false n s t l) true := by
      refine Ev.step (f := fun k => (residual_From.f k n s t l v).bind fun t242 => (racewaylaw6_ResidualReach.l1 k least room met met2 v (v == s) t242 0 n s t l)) (fun k => ?_) (Ev.bind hT L1)
      simp only [racewaylaw6_ResidualReach.j2]
      rw [if_neg (by decide)]
    refine Ev.step (fun k => ?_) J2
    simp only [racewaylaw6_ResidualReach.l0]
    rw [if_pos vn, if_pos v0, if_pos g2]
    by_cases c : rdOf false met2 v = true
    · rw [if_pos c, if_pos g1, hsub v v0 vn c]
      rfl
    · rw [if_neg c]
end
theorem rr_ord {a b : Int} (p : 0 ≤ a ∧ a < 30) (q : 0 ≤ b ∧ b < 30) : 1 ≤ 1 + mn a b ∧ 1 + mn a b ≤ 1 + mx a b ∧ 1 + mx a b ≤ 30 := by
  unfold mn mx
  split <;> split <;> omega
theorem rr_all {n s t least more : Int} {l : List S49} {f : List Int} {met met2 : List Bool} (n9 : n ≤ 9) (R : Right n s t l) (hl : l.length ≤ 24) (hlr : (roomOf l f).length = 2 * l.length) (hle : least ≤ more) (M : IsMet n s l (roomOf l f) least met) (M2 : IsMet n s l (roomOf l f) more met2) :
    Ev (fun k => racewaylaw6_ResidualReach.l0 k least (roomOf l f) met met2 1 n s t l) true ∧ (met.length : Int) = wrap64 (n + 1) ∧ (met2.length : Int) = wrap64 (n + 1) ∧ (0 : Int) < (met.length : Int) ∧ ¬ rdOf false met 0 = true ∧ 0 ≤ s ∧ s < (met.length : Int) := by
  have s1 := R.s1
  have sn := R.sn
  have n2 := R.n2
  have hml := M.len
  have hml2 := M2.len
  have hw : wrap64 (n + 1) = n + 1 := wrap_id (by omega) (by omega)
  have hsub : ∀ v, 0 ≤ v → v ≤ n → rdOf false met2 v = true → rdOf false met v = true := fun v v0 vn h =>
    M2.min (fun u => rdOf false met u = true) M.src (fun r hr hroom hp => M.step r hr (Int.le_trans hle hroom) hp) v v0 vn h
  refine ⟨rr_l0 R hl hlr M hml2 hsub n.toNat 1 (by decide) (by omega), by rw [hw]; exact hml, by rw [hw]; exact hml2, by omega, fun h => ?_, by omega, by omega⟩
  exact M.min (fun u => u ≠ 0) (by show s ≠ 0; omega) (fun r hr _ _ => by have := ends_range R.arcs hr; show toOf l r ≠ 0; omega) 0 (by decide) (by omega) h rfl
theorem ResidualReach : racewaylaw6_ResidualReach.Pure := by
  intro a0 a1 l2 l3 a4 a5 w0 w1 m2 w2 m3 y3 w3 w4 w5
  obtain ⟨n, s, t, l, hmade, n2, n9, R, hl, _, hcap⟩ := made_ev w0 w1 w2
  obtain ⟨f, F, _, hrout⟩ := routed_ev R (fun a ha => by have := hcap a ha; omega) w3
  obtain ⟨b0, b1⟩ := wf_bounds w4
  obtain ⟨c0, c1⟩ := wf_bounds w5
  have k1 := pick_eq (c := a4) (n := 30) b0 b1 (by decide)
  have k2 := pick_eq (c := a5) (n := 30) c0 c1 (by decide)
  clear b0 b1 c0 c1 w4 w5 w0 w1 m2 w2 m3 y3 w3 hcap
  have hord := rr_ord (pk_range (c := a4) (n := 30) (by decide)) (pk_range (c := a5) (n := 30) (by decide))
  obtain ⟨least, hle⟩ : ∃ least, 1 + mn (pk a4 30) (pk a5 30) = least := ⟨_, rfl⟩
  obtain ⟨more, hmo⟩ : ∃ more, 1 + mx (pk a4 30) (pk a5 30) = more := ⟨_, rfl⟩
  rw [hle, hmo] at hord
  obtain ⟨o1, o2, o3⟩ := hord
  have e1 : wrap64 least = least := by clear hmade hrout n2 n9 hl k1 k2 hle hmo; exact wrap_id (by omega) (by omega)
  have e2 : wrap64 more = more := by clear hmade hrout n2 n9 hl k1 k2 hle hmo; exact wrap_id (by omega) (by omega)
  obtain ⟨met, hmet, M⟩ := reach_ev R F (least := least) o1
  obtain ⟨met2, hmet2, M2⟩ := reach_ev R F (least := more) (Int.le_trans o1 o2)
  have hlr : (roomOf l f).length = 2 * l.length := roomOf_len F.1.len
  obtain ⟨L0, g1, g2, g3, h0, g4, g5⟩ := rr_all n9 R hl hlr o2 M M2
  refine Ev.rounds ?_
  unfold racewaylaw6_ResidualReach.f
  refine Ev.bind shown_ev ?_
  simp only [if_true]
  refine Ev.bind hmade (Ev.bind hrout ?_)
  simp only [k1, k2, Option.bind_some, hle, hmo, e1, e2]
  refine Ev.bind (room_ev R F) (Ev.bind hmet (Ev.bind hmet2 ?_))
  simp only [if_true]
  refine Ev.step (f := fun k => racewaylaw6_ResidualReach.l0 k least (roomOf l f) met met2 1 n s t l) (fun k => ?_) L0
  rw [if_pos g1, if_pos g2, if_pos g3, if_neg h0, if_pos g4, if_pos g5, M.src]
  simp only [racewaylaw6_ResidualReach.j0]
  rw [if_neg (by decide)]
end Go.Proofs.Ytbppeffcikphcaa.Pure
