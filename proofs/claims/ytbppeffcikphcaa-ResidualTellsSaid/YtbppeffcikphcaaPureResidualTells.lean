/- Plain lists and numbers, for the law ResidualTells: no program and no memory. -/
import Derived.Test.YtbppeffcikphcaaPResidualTellsx0
import Derived.Test.YtbppeffcikphcaaPResidualTellsx6
import Derived.Test.YtbppeffcikphcaaPResidualTellsx8
import Derived.Test.YtbppeffcikphcaaPResidualTellsx9
import Derived.Test.YtbppeffcikphcaaPResidualTellsx11
import Derived.Test.YtbppeffcikphcaaPResidualTellsx12
import Derived.Test.YtbppeffcikphcaaPResidualTellsx17
import Derived.Test.YtbppeffcikphcaaPResidualTellsx18
import Derived.Test.YtbppeffcikphcaaPResidualTellsx19
import Derived.Test.YtbppeffcikphcaaPResidualTellsx20
import Derived.Test.YtbppeffcikphcaaPResidualTellsx21
import Derived.Test.YtbppeffcikphcaaPResidualTellsx22
import Derived.Test.YtbppeffcikphcaaPResidualTellsx23
import Derived.Test.YtbppeffcikphcaaPResidualTellsx25
import Derived.Test.YtbppeffcikphcaaPResidualTellsx26
import Derived.Test.YtbppeffcikphcaaMResidualTellsAll
set_option linter.unusedVariables false
namespace Go.Proofs.Ytbppeffcikphcaa.Pure
open Go.RowKit Go.Proofs.Ytbppeffcikphcaa.PResidualTells Go.Proofs.YtbppeffcikphcaaW.PrintWords Go.Proofs.YtbppeffcikphcaaW.PrintLast
theorem cap_le_sum {n : Int} : ∀ {l : List S49}, (∀ a ∈ l, GoodArc n a) → ∀ a ∈ l, a.f2 ≤ sumCap l
  | b :: l, h, a, ha => by
    have h1 := sumCap_nonneg (l := l) (fun x hx => h x (List.mem_cons_of_mem _ hx))
    have h2 := (h b List.mem_cons_self).2.2.2.2
    simp only [sumCap]
    rcases List.mem_cons.1 ha with rfl | ha
    · omega
    · have := cap_le_sum (fun x hx => h x (List.mem_cons_of_mem _ hx)) a ha
      omega
section
variable {n s t : Int} {l : List S49}
theorem ends_far {r : Int} (hl : l.length ≤ 2000) (b0 : -9223372036854775808 ≤ r) (b1 : r ≤ 9223372036854775807) (h : ¬ InR l r) :
    Ev (fun k => residual_Ends.f k n s t l r) (0, 0) ∧ Ev (fun k => racewayref6_Ends.f k n s t l r) (0, 0) := by
  have h2 : r < 0 ∨ 0 ≤ r ∧ 2 * (l.length : Int) ≤ r := by unfold InR at h; omega
  have e1 : Ev (fun k => residual_Ends.j0 k r true n s t l) (0, 0) := by
    refine Ev.step (f := fun _ => some (0, 0)) (fun k => ?_) (Ev.now _)
    simp only [residual_Ends.j0]
    rw [if_pos (by trivial)]
  have e2 : Ev (fun k => racewayref6_Ends.j0 k r true n s t l) (0, 0) := by
    refine Ev.step (f := fun _ => some (0, 0)) (fun k => ?_) (Ev.now _)
    simp only [racewayref6_Ends.j0]
    rw [if_pos (by trivial)]
  rcases h2 with h2 | ⟨h0, h2⟩
  · exact ⟨Ev.congr (fun k => if_pos h2) e1, Ev.congr (fun k => if_pos h2) e2⟩
  · have hd : wrap64 (Int.tdiv r 2) = r / 2 := by rw [tdiv2 h0, wrap_id (by omega) (by omega)]
    have d1 : decide (wrap64 (Int.tdiv r 2) ≥ (l.length : Int)) = true := by rw [hd]; exact decide_eq_true (by omega)
    have d2 : decide (r ≥ wrap64 (2 * (l.length : Int))) = true := by rw [wrap_id (by omega) (by omega)]; exact decide_eq_true (by omega)
    refine ⟨Ev.congr (fun k => ?_) e1, Ev.congr (fun k => ?_) e2⟩
    · unfold residual_Ends.f
      rw [if_neg (by omega), d1]
    · unfold racewayref6_Ends.f
      rw [if_neg (by omega), d2]
theorem ends_any {r : Int} (hl : l.length ≤ 2000) (b0 : -9223372036854775808 ≤ r) (b1 : r ≤ 9223372036854775807) :
    ∃ p q, Ev (fun k => residual_Ends.f k n s t l r) (p, q) ∧ Ev (fun k => racewayref6_Ends.f k n s t l r) (p, q) ∧ (InR l r ∧ p = fromOf l r ∧ q = toOf l r ∨ p = 0 ∧ q = 0) := by
  by_cases h : InR l r
  · exact ⟨_, _, ends_ev h hl, ends6_ev h hl, .inl ⟨h, rfl, rfl⟩⟩
  · obtain ⟨h1, h2⟩ := ends_far (n := n) (s := s) (t := t) hl b0 b1 h
    exact ⟨0, 0, h1, h2, .inr ⟨rfl, rfl⟩⟩
theorem from6_loop {v : Int} (hl : l.length ≤ 2000) (d : Nat) : ∀ i : Nat, i + d = 2 * l.length → Ev (fun k => racewayref6_From.l0 k v (tr l v i) (i : Int) n s t l) (tr l v (2 * l.length)) := by
  induction d with
  | zero =>
    intro i hi
    obtain rfl : i = 2 * l.length := by omega
    refine Ev.step (f := fun _ => some (tr l v (2 * l.length))) (fun k => ?_) (Ev.now _)
    simp only [racewayref6_From.l0]
    rw [wrap_id (x := 2 * (l.length : Int)) (by omega) (by omega), if_neg (by omega)]
  | succ d ih =>
    intro i hi
    have hr : InR l (i : Int) := ⟨by omega, by omega⟩
    have hT := tr_len (l := l) (v := v) i
    have hn := ih (i + 1) (by omega)
    have hw : wrap64 ((i : Int) + 1) = ((i + 1 : Nat) : Int) := wrap_succ (by omega)
    refine Ev.step (f := ?g) (fun k => ?h) ?e
    case h =>
      simp only [racewayref6_From.l0]
      rw [wrap_id (x := 2 * (l.length : Int)) (by omega) (by omega), if_pos (by omega)]
    case e =>
      refine Ev.bind (ends6_ev hr hl) ?_
      refine Ev.congr (fun k => ?_) hn
      simp only [hw, tr]
      by_cases c : fromOf l (i : Int) = v
      · rw [if_pos c, if_pos c, if_pos (by omega)]
      · rw [if_neg c, if_neg c, List.append_nil]
theorem from6_ev {v : Int} (hl : l.length ≤ 2000) : Ev (fun k => racewayref6_From.f k n s t l v) (tr l v (2 * l.length)) :=
  from6_loop hl (2 * l.length) 0 (by omega)
theorem sameB_loop {a : List Bool} (hm : a.length ≤ 1000000) (d : Nat) : ∀ i : Nat, i + d = a.length → Ev (fun k => racewaylaw6_sameBools.l0 k a a (i : Int)) true := by
  induction d with
  | zero =>
    intro i hi
    refine Ev.step (f := fun _ => some true) (fun k => ?_) (Ev.now _)
    simp only [racewaylaw6_sameBools.l0]
    rw [if_neg (by omega)]
  | succ d ih =>
    intro i hi
    refine Ev.step (fun k => ?_) (ih (i + 1) (by omega))
    simp only [racewaylaw6_sameBools.l0]
    rw [if_pos (by omega), if_pos (by omega), if_pos (by omega), if_neg (by simp), wrap_succ (by omega)]
theorem sameB_ev {a : List Bool} (hm : a.length ≤ 1000000) : Ev (fun k => racewaylaw6_sameBools.f k a a) true := by
  refine Ev.congr (fun k => ?_) (sameB_loop hm a.length 0 (by omega))
  unfold racewaylaw6_sameBools.f
  rw [if_pos rfl]
  rfl
theorem met_unique {room : List Int} {least : Int} {a b : List Bool} (A : IsMet n s l room least a) (B : IsMet n s l room least b) : a = b := by
  have ha := A.len
  have hb := B.len
  refine List.ext_getElem (by omega) (fun i h1 h2 => ?_)
  have e1 := rdB_get (m := a) (v := (i : Int)) (by omega) (by omega) (by omega)
  have e2 := rdB_get (m := b) (v := (i : Int)) (by omega) (by omega) (by omega)
  simp only [Int.toNat_natCast] at e1 e2
  rw [e1, e2]
  have h12 := A.min (fun v => rdOf false b v = true) B.src B.step (i : Int) (by omega) (by omega)
  have h21 := B.min (fun v => rdOf false a v = true) A.src A.step (i : Int) (by omega) (by omega)
  cases c1 : rdOf false a (i : Int) with
  | true => exact (h12 c1).symm
  | false =>
    cases c2 : rdOf false b (i : Int) with
    | false => rfl
    | true => rw [h21 c2] at c1; cases c1
theorem push_first {f w : List Int} {m : Int} (hg : ∀ a ∈ l, GoodArc n a) (hl : l.length ≤ 2000) (hb : ∀ r ∈ w, -9223372036854775808 ≤ r ∧ r ≤ 9223372036854775807) (hwl : w.length ≤ 1000000) (d : Nat) : ∀ (j : Nat) (u : Int), j + d = w.length →
    (Ev (fun k => residual_Push.l0 k f w m u w (w.length : Int) (j : Int) n s t l) ([], 1) ∧ Ev (fun k => racewayref6_walks.l0 k w u (j : Int) n s t l) false) ∨
    ((∀ r ∈ w.drop j, InR l r) ∧ ∃ v : Bool, Ev (fun k => racewayref6_walks.l0 k w u (j : Int) n s t l) v ∧ ∀ res, Ev (fun k => residual_Push.j1 k f w m (!v) n s t l) res → Ev (fun k => residual_Push.l0 k f w m u w (w.length : Int) (j : Int) n s t l) res) := by
  induction d with
  | zero =>
    intro j u hj
    refine .inr ⟨(fun r hr => by (rw [List.drop_of_length_le (by omega)] at hr; cases hr)), ?_⟩
    by_cases c : w.length = 0
    · refine ⟨false, Ev.step (f := fun _ => some false) (fun k => ?_) (Ev.now _), fun res h => Ev.step (fun k => ?_) h⟩
      · simp only [racewayref6_walks.l0]
        rw [if_neg (by omega), if_neg (by omega)]
      · simp only [residual_Push.l0]
        rw [if_neg (by omega), if_pos (by omega)]
        rfl
    · refine ⟨u == t, Ev.step (f := fun _ => some (u == t)) (fun k => ?_) (Ev.now _), fun res h => Ev.step (fun k => ?_) h⟩
      · simp only [racewayref6_walks.l0]
        rw [if_neg (by omega), if_pos (by omega)]
      · simp only [residual_Push.l0]
        rw [if_neg (by omega), if_neg (by omega)]
        rfl
  | succ d ih =>
    intro j u hj
    have hjw : j < w.length := by omega
    obtain ⟨b0, b1⟩ := hb _ (List.getElem_mem hjw)
    rw [← rd_get hjw] at b0 b1
    obtain ⟨p, q, h1, h2, h3⟩ := ends_any (n := n) (s := s) (t := t) hl b0 b1
    have hw : wrap64 ((j : Int) + 1) = ((j + 1 : Nat) : Int) := wrap_succ (by omega)
    have s1 : ∀ res, Ev (fun k => if p = u then (if q = 0 then (some (([] : List Int), (1 : Int))) else (residual_Push.l0 k f w m q w (w.length : Int) ((j + 1 : Nat) : Int) n s t l)) else (some (([] : List Int), 1))) res → Ev (fun k => residual_Push.l0 k f w m u w (w.length : Int) (j : Int) n s t l) res := fun res h => by
      refine Ev.step (f := ?g) (fun k => ?h) ?e
      case h =>
        simp only [residual_Push.l0]
        rw [if_pos (by omega), if_pos (by omega), if_pos (by omega), hw]
      case e =>
        exact Ev.bind h1 h
    have s2 : ∀ res, Ev (fun k => if p = u then (if q = 0 then (some false) else (racewayref6_walks.l0 k w q ((j + 1 : Nat) : Int) n s t l)) else (some false)) res → Ev (fun k => racewayref6_walks.l0 k w u (j : Int) n s t l) res := fun res h => by
      refine Ev.step (f := ?g2) (fun k => ?h2) ?e2
      case h2 =>
        simp only [racewayref6_walks.l0]
        rw [if_pos (by omega), if_pos (by omega), hw]
      case e2 =>
        exact Ev.bind h2 h
    by_cases c1 : p = u
    · by_cases c2 : q = 0
      · exact .inl ⟨s1 _ (Ev.congr (fun k => by rw [if_pos c1, if_pos c2]) (Ev.now _)), s2 _ (Ev.congr (fun k => by rw [if_pos c1, if_pos c2]) (Ev.now _))⟩
      · rcases ih (j + 1) q (by omega) with ⟨i1, i2⟩ | ⟨i1, v, i2, i3⟩
        · exact .inl ⟨s1 _ (Ev.congr (fun k => by rw [if_pos c1, if_neg c2]) i1), s2 _ (Ev.congr (fun k => by rw [if_pos c1, if_neg c2]) i2)⟩
        · refine .inr ⟨fun r hr => ?_, v, s2 _ (Ev.congr (fun k => by rw [if_pos c1, if_neg c2]) i2), fun res h => s1 _ (Ev.congr (fun k => by rw [if_pos c1, if_neg c2]) (i3 res h))⟩
          rw [List.drop_eq_getElem_cons hjw] at hr
          rcases List.mem_cons.1 hr with rfl | hr
          · rcases h3 with ⟨h3, _⟩ | ⟨_, h3⟩
            · rw [rd_get hjw] at h3
              exact h3
            · exact absurd h3 c2
          · exact i1 r hr
    · exact .inl ⟨s1 _ (Ev.congr (fun k => by rw [if_neg c1]) (Ev.now _)), s2 _ (Ev.congr (fun k => by rw [if_neg c1]) (Ev.now _))⟩
theorem push_second {w : List Int} {m : Int} (hw : ∀ r ∈ w, InR l r) (hl : l.length ≤ 2000) (hwl : w.length ≤ 1000000) (hm : 1 ≤ m) (hm2 : m ≤ 9223372036854775807) (hcap : ∀ a ∈ l, a.f2 ≤ 4611686018427387903) (d : Nat) :
    ∀ (j : Nat) (f : List Int), j + d = w.length → Within l f → ∃ (g : List Int) (e : Int), g.length ≤ 1000000 ∧ Ev (fun k => residual_Push.l1 k f m w (w.length : Int) (j : Int) n s t l) (g, e) ∧ Ev (fun k => racewayref6_Push.l0 k w m f (j : Int) n s t l) (g, e) := by
  induction d with
  | zero =>
    intro j f hj W
    have hlen := W.len
    refine ⟨f, 0, by omega, Ev.step (f := fun _ => some (f, 0)) (fun k => ?_) (Ev.now _), Ev.step (f := fun _ => some (f, 0)) (fun k => ?_) (Ev.now _)⟩
    · simp only [residual_Push.l1]
      rw [if_neg (by omega)]
    · simp only [racewayref6_Push.l0]
      rw [if_neg (by omega)]
  | succ d ih =>
    intro j f hj W
    have hjw : j < w.length := by omega
    have hlen := W.len
    obtain ⟨r, hr⟩ : ∃ r, w[j] = r := ⟨_, rfl⟩
    obtain ⟨h0, h1⟩ := hw r (by rw [← hr]; exact List.getElem_mem hjw)
    have hrd : rd w (j : Int) = r := by rw [rd_get hjw, hr]
    have hc := hcap _ (rdT_mem (l := l) (i := r / 2) (by omega) (by omega))
    have hb := within_rd W (i := r / 2) (by omega) (by omega)
    have hd : wrap64 (Int.tdiv r 2) = r / 2 := by rw [tdiv2 h0, wrap_id (by omega) (by omega)]
    have hmod : Int.tmod r 2 = r % 2 := Int.tmod_eq_emod_of_nonneg h0
    have hws : wrap64 ((j : Int) + 1) = ((j + 1 : Nat) : Int) := wrap_succ (by omega)
    have hset : ∀ y, 0 ≤ y → y ≤ (rd_T49 l (r / 2)).f2 → Within l (f.set (r / 2).toNat y) := fun y y0 y1 => W.set _ _ y0 (fun h' => by rw [rdT_nat (by omega) (by omega) h']; exact y1)
    obtain ⟨x, hx⟩ : ∃ x, rd f (r / 2) = x := ⟨_, rfl⟩
    obtain ⟨c, hcc⟩ : ∃ c, (rd_T49 l (r / 2)).f2 = c := ⟨_, rfl⟩
    rw [hx, hcc] at hb
    rw [hcc] at hc hset
    have hbit := bit_odd h0 (show r ≤ 1000000 by omega)
    have wm : wrap64 (-m) = -m := wrap_id (by omega) (by omega)
    have wmm : wrap64 (- -m) = m := by rw [Int.neg_neg]; exact wrap_id (by omega) (by omega)
    have j0 : (0 : Int) ≤ (j : Int) := Int.natCast_nonneg j
    have j1 : (j : Int) < (w.length : Int) := Int.ofNat_lt.2 hjw
    have q0 : 0 ≤ r / 2 := by clear hws hbit wm wmm hd hmod hrd hm hm2 hc hb; omega
    have q1 : r / 2 < (f.length : Int) := by clear hws hbit wm wmm hd hmod hrd hm hm2 hc hb; omega
    have q2 : r / 2 < (l.length : Int) := by clear hws hbit wm wmm hd hmod hrd hm hm2 hc hb; omega
    have x1 : ¬ x < -m := by clear hws hbit wm wmm hd hmod hrd h0 h1 hlen j0 j1 q0 q1 q2; omega
    have wcm : wrap64 (c - m) = c - m := by clear hws hbit wm wmm hd hmod hrd h0 h1 hlen j0 j1 q0 q1 q2; exact wrap_id (by omega) (by omega)
    have wcx : wrap64 (c - x) = c - x := by clear hws hbit wm wmm hd hmod hrd h0 h1 hlen j0 j1 q0 q1 q2; exact wrap_id (by omega) (by omega)
    by_cases o : r % 2 = 1
    · have o2 : ¬ r % 2 = 0 := by clear hws hbit wm wmm hd hmod hrd hm hm2 hc hb wcm wcx; omega
      by_cases c1 : x < m
      · refine ⟨[], 9, by simp, Ev.step (f := fun _ => some ([], 9)) (fun k => ?_) (Ev.now _), Ev.step (f := fun _ => some ([], 9)) (fun k => ?_) (Ev.now _)⟩
        · simp only [residual_Push.l1, hrd, hd, hbit, hx, hcc, wm, wmm]
          rw [if_pos j1, if_pos j0, if_pos j1, if_pos o, if_pos q0, if_pos q1, if_pos q2]
          by_cases c2 : x > wrap64 (c - -m)
          · rw [if_pos c2]
          · rw [if_neg c2, if_pos c1]
        · simp only [racewayref6_Push.l0, hrd, hd, hmod, hx, hcc]
          rw [if_pos j1, if_pos j0, if_neg o2, if_pos q0, if_pos q1, if_pos c1]
      · have y0 : 0 ≤ x - m := by clear hws hbit wm wmm hd hmod hrd wcm wcx h0 h1 hlen j0 j1 q0 q1 q2; omega
        have y1 : x - m ≤ c := by clear hws hbit wm wmm hd hmod hrd wcm wcx h0 h1 hlen j0 j1 q0 q1 q2; omega
        have y2 : wrap64 (c - -m) = c - -m := by clear hws hbit wm wmm hd hmod hrd wcm wcx h0 h1 hlen j0 j1 q0 q1 q2; exact wrap_id (by omega) (by omega)
        have y3 : wrap64 (x + -m) = x - m := by clear hws hbit wm wmm hd hmod hrd wcm wcx h0 h1 hlen j0 j1 q0 q1 q2; rw [Int.add_neg_eq_sub]; exact wrap_id (by omega) (by omega)
        have y4 : wrap64 (x - m) = x - m := by clear hws hbit wm wmm hd hmod hrd wcm wcx h0 h1 hlen j0 j1 q0 q1 q2; exact wrap_id (by omega) (by omega)
        have y5 : ¬ x > c - -m := by clear hws hbit wm wmm hd hmod hrd wcm wcx h0 h1 hlen j0 j1 q0 q1 q2; omega
        obtain ⟨g, e, hg, i1, i2⟩ := ih (j + 1) (f.set (r / 2).toNat (x - m)) (by clear hws hbit wm wmm hd hmod hrd hm hm2 hc hb wcm wcx; omega) (hset _ y0 y1)
        refine ⟨g, e, hg, Ev.step (fun k => ?_) i1, Ev.step (fun k => ?_) i2⟩
        · simp only [residual_Push.l1, hrd, hd, hbit, hx, hcc, wm, wmm, hws, y2, y3]
          rw [if_pos j1, if_pos j0, if_pos j1, if_pos o, if_pos q0, if_pos q1, if_pos q2, if_neg y5, if_neg c1]
        · simp only [racewayref6_Push.l0, hrd, hd, hmod, hx, hcc, hws, y4]
          rw [if_pos j1, if_pos j0, if_neg o2, if_pos q0, if_pos q1, if_neg c1]
    · have o2 : r % 2 = 0 := by clear hws hbit wm wmm hd hmod hrd hm hm2 hc hb wcm wcx; omega
      by_cases c1 : c - x < m
      · have y1 : x > c - m := by clear hws hbit wm wmm hd hmod hrd wcm wcx h0 h1 hlen j0 j1 q0 q1 q2; omega
        refine ⟨[], 9, by simp, Ev.step (f := fun _ => some ([], 9)) (fun k => ?_) (Ev.now _), Ev.step (f := fun _ => some ([], 9)) (fun k => ?_) (Ev.now _)⟩
        · simp only [residual_Push.l1, hrd, hd, hbit, hx, hcc, wm, wcm]
          rw [if_pos j1, if_pos j0, if_pos j1, if_neg o, if_pos q0, if_pos q1, if_pos q2, if_pos y1]
        · simp only [racewayref6_Push.l0, hrd, hd, hmod, hx, hcc, wcx]
          rw [if_pos j1, if_pos j0, if_pos o2, if_pos q0, if_pos q2, if_pos q1, if_pos c1]
      · have y0 : 0 ≤ x + m := by clear hws hbit wm wmm hd hmod hrd wcm wcx h0 h1 hlen j0 j1 q0 q1 q2; omega
        have y1 : x + m ≤ c := by clear hws hbit wm wmm hd hmod hrd wcm wcx h0 h1 hlen j0 j1 q0 q1 q2; omega
        have y2 : wrap64 (x + m) = x + m := by clear hws hbit wm wmm hd hmod hrd wcm wcx h0 h1 hlen j0 j1 q0 q1 q2; exact wrap_id (by omega) (by omega)
        have y5 : ¬ x > c - m := by clear hws hbit wm wmm hd hmod hrd wcm wcx h0 h1 hlen j0 j1 q0 q1 q2; omega
        obtain ⟨g, e, hg, i1, i2⟩ := ih (j + 1) (f.set (r / 2).toNat (x + m)) (by clear hws hbit wm wmm hd hmod hrd hm hm2 hc hb wcm wcx; omega) (hset _ y0 y1)
        refine ⟨g, e, hg, Ev.step (fun k => ?_) i1, Ev.step (fun k => ?_) i2⟩
        · simp only [residual_Push.l1, hrd, hd, hbit, hx, hcc, wm, hws, wcm, y2]
          rw [if_pos j1, if_pos j0, if_pos j1, if_neg o, if_pos q0, if_pos q1, if_pos q2, if_neg y5, if_neg x1]
        · simp only [racewayref6_Push.l0, hrd, hd, hmod, hx, hcc, hws, wcx, y2]
          rw [if_pos j1, if_pos j0, if_pos o2, if_pos q0, if_pos q2, if_pos q1, if_neg c1]
theorem push_tells {f w : List Int} {m : Int} (R : Right n s t l) (F : IsFlow n s t l f) (hc : Ev (fun k => racewayref5_Check.f k n s t l f) 0) (hb : ∀ r ∈ w, -9223372036854775808 ≤ r ∧ r ≤ 9223372036854775807) (hwl : w.length ≤ 1000000) (hm2 : m ≤ 9223372036854775807) (hcap : ∀ a ∈ l, a.f2 ≤ 4611686018427387903) :
    ∃ (g : List Int) (e : Int), g.length ≤ 1000000 ∧ Ev (fun k => residual_Push.f k n s t l f w m) (g, e) ∧ Ev (fun k => racewayref6_Push.f k n s t l f w m) (g, e) := by
  have hl := R.len
  have hfl := F.within.len
  have p1 : ∀ res, Ev (fun k => residual_Push.l0 k f w m s w (w.length : Int) 0 n s t l) res → Ev (fun k => residual_Push.f k n s t l f w m) res := fun res h => by
    unfold residual_Push.f
    refine Ev.bind (check_flow R F) ?_
    simp only [if_true]
    exact h
  have p2 : ∀ v res, Ev (fun k => racewayref6_walks.f k n s t l w) v → Ev (fun k => if v = true then (if m < 1 then (some (([] : List Int), (3 : Int))) else racewayref6_Push.l0 k w m f 0 n s t l) else some (([] : List Int), 1)) res → Ev (fun k => racewayref6_Push.f k n s t l f w m) res := fun v res hv h => by
    unfold racewayref6_Push.f
    refine Ev.bind hc ?_
    simp only [if_true]
    refine Ev.bind hv ?_
    refine Ev.congr (fun k => ?_) h
    simp only [Option.bind_some, List.nil_append, List.length_nil, Nat.zero_add]
    rw [if_pos (show f.length < 17592186044416 by omega)]
  rcases push_first (f := f) (m := m) (n := n) (s := s) (t := t) R.arcs hl hb hwl w.length 0 s (by omega) with ⟨h1, h2⟩ | ⟨h1, v, h2, h3⟩
  · exact ⟨[], 1, by simp, p1 _ h1, p2 false _ h2 (Ev.congr (fun k => if_neg (by decide)) (Ev.now _))⟩
  · cases v with
    | false =>
      refine ⟨[], 1, by simp, p1 _ (h3 _ (Ev.step (f := fun _ => some ([], 1)) (fun k => ?_) (Ev.now _))), p2 false _ h2 (Ev.congr (fun k => if_neg (by decide)) (Ev.now _))⟩
      simp only [residual_Push.j1, Bool.not_false]
      rw [if_pos (by trivial)]
    | true =>
      by_cases hm : m < 1
      · refine ⟨[], 3, by simp, p1 _ (h3 _ (Ev.step (f := fun _ => some ([], 3)) (fun k => ?_) (Ev.now _))), p2 true _ h2 (Ev.congr (fun k => by rw [if_pos rfl, if_pos hm]) (Ev.now _))⟩
        simp only [residual_Push.j1, Bool.not_true]
        rw [if_neg (by decide), if_pos hm]
      · rw [List.drop_zero] at h1
        obtain ⟨g, e, hg, i1, i2⟩ := push_second (n := n) (s := s) (t := t) h1 hl hwl (by omega) hm2 hcap w.length 0 f (by omega) F.within
        refine ⟨g, e, hg, p1 _ (h3 _ (Ev.step (fun k => ?_) i1)), p2 true _ h2 (Ev.congr (fun k => by rw [if_pos rfl, if_neg hm]; rfl) i2)⟩
        simp only [residual_Push.j1, Bool.not_true]
        rw [if_neg (by decide), if_neg hm]
        unfold clone64.f
        rw [if_pos (by omega)]
        rfl
theorem tells_all {f w : List Int} {m least : Int} (hw : ∀ a ∈ l, -9223372036854775808 ≤ a.f2 ∧ a.f2 ≤ 9223372036854775807) (hb : ∀ r ∈ w, -9223372036854775808 ≤ r ∧ r ≤ 9223372036854775807) (hwl : w.length ≤ 1000000) (hm2 : m ≤ 9223372036854775807) :
    ∃ (a c : List Int) (x : List Bool) (e1 e2 e3 : Int), a.length ≤ 1000000 ∧ c.length ≤ 1000000 ∧ x.length ≤ 1000000 ∧
      Ev (fun k => residual_Room.f k n s t l f) (a, e1) ∧ Ev (fun k => racewayref6_Room.f k n s t l f) (a, e1) ∧
      Ev (fun k => residual_Push.f k n s t l f w m) (c, e2) ∧ Ev (fun k => racewayref6_Push.f k n s t l f w m) (c, e2) ∧
      Ev (fun k => residual_Reach.f k n s t l f least) (x, e3) ∧ Ev (fun k => racewayref6_Reach.f k n s t l f least) (x, e3) := by
  rcases check_both (n := n) (s := s) (t := t) (f := f) hw with ⟨e, he, h1, h2⟩ | ⟨R, F, hc⟩
  · refine ⟨[], [], [], e, e, e, by simp, by simp, by simp, room_err he h1, room6_err he h2, ?_, ?_, ?_, reach6_err he h2⟩
    · unfold residual_Push.f
      refine Ev.bind h1 ?_
      exact Ev.congr (fun k => if_neg he) (Ev.now _)
    · unfold racewayref6_Push.f
      refine Ev.bind h2 ?_
      exact Ev.congr (fun k => if_neg he) (Ev.now _)
    · unfold residual_Reach.f
      refine Ev.bind (room_err he h1) ?_
      exact Ev.congr (fun k => if_neg he) (Ev.now _)
  · have hl := R.len
    have h4 := R.n500
    have hlen : (roomOf l f).length = 2 * l.length := roomOf_len F.1.len
    obtain ⟨c, e2, hcl, p1, p2⟩ := push_tells (w := w) (m := m) R F hc hb hwl hm2 (fun a ha => by have := cap_le_sum R.arcs a ha; have := R.sum; omega)
    by_cases hle : least < 1
    · refine ⟨roomOf l f, c, [], 0, e2, 3, by omega, hcl, by simp, room_ev R F, room6_ev R F hc, p1, p2, ?_, reach6_low R F hc hle⟩
      unfold residual_Reach.f
      refine Ev.bind (room_ev R F) ?_
      simp only [if_true]
      exact Ev.congr (fun k => if_pos hle) (Ev.now _)
    · obtain ⟨x, q1, M1⟩ := reach_ev R F (least := least) (by omega)
      obtain ⟨y, q2, M2⟩ := reach6_ev R F hc (least := least) (by omega)
      obtain rfl := met_unique M1 M2
      have hxl := M1.len
      exact ⟨roomOf l f, c, x, 0, e2, 0, by omega, hcl, by omega, room_ev R F, room6_ev R F hc, p1, p2, q1, q2⟩
theorem tells_ends {w : List Int} (hl : l.length ≤ 2000) (hb : ∀ r ∈ w, -9223372036854775808 ≤ r ∧ r ≤ 9223372036854775807) (hwl : w.length ≤ 1000000) (d : Nat) : ∀ j : Nat, j + d = w.length →
    Ev (fun k => racewaylaw6_ResidualTells.l0 k w (j : Int) n s t l) true := by
  induction d with
  | zero =>
    intro j hj
    refine Ev.step (f := fun _ => some true) (fun k => ?_) (Ev.now _)
    simp only [racewaylaw6_ResidualTells.l0]
    rw [if_neg (by omega)]
  | succ d ih =>
    intro j hj
    have hjw : j < w.length := by omega
    have hn := ih (j + 1) (by omega)
    obtain ⟨b0, b1⟩ := hb _ (List.getElem_mem hjw)
    rw [← rd_get hjw] at b0 b1
    obtain ⟨p, q, h1, h2, _⟩ := ends_any (n := n) (s := s) (t := t) hl b0 b1
    have ht := tr_len (l := l) (v := p) (2 * l.length)
    refine Ev.step (f := ?g) (fun k => ?h) ?e
    case h =>
      simp only [racewaylaw6_ResidualTells.l0]
      rw [if_pos (by omega), if_pos (by omega), wrap_succ (show j ≤ 1000000 by omega)]
    case e =>
      refine Ev.bind h1 (Ev.bind h2 ?_)
      simp only [if_true]
      refine Ev.bind (tracks_ev hl) (Ev.bind (from6_ev hl) (Ev.bind (samei_ev _ _ (by omega)) ?_))
      simp only [decide_true, if_true]
      exact hn
theorem tells_j {f w : List Int} {m least : Int} (hw : ∀ a ∈ l, -9223372036854775808 ≤ a.f2 ∧ a.f2 ≤ 9223372036854775807) (hl : l.length ≤ 2000) (hb : ∀ r ∈ w, -9223372036854775808 ≤ r ∧ r ≤ 9223372036854775807) (hwl : w.length ≤ 1000000) (hm2 : m ≤ 9223372036854775807) :
    Ev (fun k => racewaylaw6_ResidualTells.j0 k f w m least true false n s t l) true := by
  obtain ⟨a, c, x, e1, e2, e3, al, cl, xl, h1, h2, h3, h4, h5, h6⟩ := tells_all (n := n) (s := s) (t := t) (f := f) (w := w) (m := m) (least := least) hw hb hwl hm2
  have last : Ev (fun k => racewaylaw6_ResidualTells.j1 k w false n s t l) true := by
    refine Ev.step (fun k => ?_) (tells_ends (n := n) (s := s) (t := t) hl hb hwl w.length 0 (by omega))
    simp only [racewaylaw6_ResidualTells.j1]
    rw [if_neg (by decide)]
    rfl
  refine Ev.step (f := ?g) (fun k => ?h) ?e
  case h =>
    simp only [racewaylaw6_ResidualTells.j0]
    rw [if_neg (by decide)]
  case e =>
    refine Ev.bind h1 (Ev.bind h2 (Ev.bind h3 (Ev.bind h4 (Ev.bind h5 (Ev.bind h6 (Ev.bind (same_ev a a al) ?_))))))
    simp only [decide_true, if_true]
    refine Ev.bind (same_ev c c cl) ?_
    simp only [decide_true, if_true]
    refine Ev.bind (sameB_ev xl) ?_
    simp only [if_true, bne_self_eq_false]
    exact last
theorem tells_head {f w : List Int} {m least : Int} : Ev (fun k => racewaylaw6_ResidualTells.j0 k f w m least true true n s t l) true := by
  refine Ev.step (f := fun _ => some true) (fun k => ?_) (Ev.now _)
  simp only [racewaylaw6_ResidualTells.j0]
  rw [if_pos (by trivial)]
end
theorem ResidualTells : racewaylaw6_ResidualTells.Pure := by
  intro n s t l f w m least _ _ _ _ hw _ _ _ _ _ hb hm _
  have hw2 : ∀ a ∈ l, -9223372036854775808 ≤ a.f2 ∧ a.f2 ≤ 9223372036854775807 := fun a ha => wf_bounds (hw a ha).2.2
  have hb2 : ∀ r ∈ w, -9223372036854775808 ≤ r ∧ r ≤ 9223372036854775807 := fun r hr => wf_bounds (hb r hr)
  have hm2 := (wf_bounds hm).2
  refine Ev.rounds ?_
  unfold racewaylaw6_ResidualTells.f
  refine Ev.bind shown_ev ?_
  simp only [if_true]
  by_cases c : (l.length : Int) > 200
  · exact Ev.congr (fun k => if_pos c) tells_head
  · refine Ev.congr (fun k => if_neg c) ?_
    by_cases c2 : n > 60
    · exact Ev.congr (fun k => if_pos c2) tells_head
    · refine Ev.congr (fun k => if_neg c2) ?_
      by_cases c3 : (w.length : Int) > 100
      · rw [decide_eq_true c3]
        exact tells_head
      · rw [decide_eq_false c3]
        exact tells_j hw2 (by omega) hb2 (by omega) hm2
end Go.Proofs.Ytbppeffcikphcaa.Pure
