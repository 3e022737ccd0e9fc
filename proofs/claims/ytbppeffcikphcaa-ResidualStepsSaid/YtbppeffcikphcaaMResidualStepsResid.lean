/- Plain lists and numbers, for the law ResidualSteps: no program and no memory. -/
import Derived.Test.YtbppeffcikphcaaPResidualStepsx0
import Derived.Test.YtbppeffcikphcaaPResidualStepsx12
import Derived.Test.YtbppeffcikphcaaPResidualStepsx13
import Derived.Test.YtbppeffcikphcaaPResidualStepsx14
import Derived.Test.YtbppeffcikphcaaPResidualStepsx15
import Derived.Test.YtbppeffcikphcaaMResidualStepsBase
import Derived.Test.YtbppeffcikphcaaMResidualStepsPick
import Derived.Test.YtbppeffcikphcaaMResidualStepsMade
import Derived.Test.YtbppeffcikphcaaMResidualStepsFlowmath
import Derived.Test.YtbppeffcikphcaaMResidualStepsFlowfun
import Derived.Test.YtbppeffcikphcaaMResidualStepsWalk
import Derived.Test.YtbppeffcikphcaaMResidualStepsRouted
import Derived.Lib.RabinKarpLaws
set_option linter.unusedVariables false
namespace Go.Proofs.Ytbppeffcikphcaa.Pure
open Go.RowKit Go.Proofs.Ytbppeffcikphcaa.PResidualSteps Go.Proofs.YtbppeffcikphcaaW.PrintWords Go.Proofs.YtbppeffcikphcaaW.PrintLast
/-! Residual tracks: r leads along arc r/2, backwards where r is odd. -/
theorem bit_odd {r : Int} (h0 : 0 ≤ r) (h1 : r ≤ 1000000) : Go.bits .and .i64 r 1 = r % 2 := by
  obtain ⟨i, rfl⟩ : ∃ i : Nat, r = (i : Int) := ⟨r.toNat, by omega⟩
  rw [Go.Proofs.and_one i (by omega)]; omega
theorem tdiv2 {r : Int} (h0 : 0 ≤ r) : Int.tdiv r 2 = r / 2 := Int.tdiv_eq_ediv_of_nonneg h0
def fromOf (l : List S49) (r : Int) : Int := if r % 2 = 1 then (rd_T49 l (r / 2)).f1 else (rd_T49 l (r / 2)).f0
def toOf (l : List S49) (r : Int) : Int := if r % 2 = 1 then (rd_T49 l (r / 2)).f0 else (rd_T49 l (r / 2)).f1
def InR (l : List S49) (r : Int) : Prop := 0 ≤ r ∧ r < 2 * (l.length : Int)
theorem ends_ev {n s t r : Int} {l : List S49} (h : InR l r) (hl : l.length ≤ 2000) : Ev (fun k => residual_Ends.f k n s t l r) (fromOf l r, toOf l r) := by
  obtain ⟨h0, h1⟩ := h
  have hd : wrap64 (Int.tdiv r 2) = r / 2 := by rw [tdiv2 h0, wrap_id (by omega) (by omega)]
  have e : Ev (fun k => residual_Ends.j0 k r (decide (wrap64 (Int.tdiv r 2) ≥ (l.length : Int))) n s t l) (fromOf l r, toOf l r) := by
    refine Ev.step (f := fun _ => some (fromOf l r, toOf l r)) (fun k => ?_) (Ev.now _)
    simp only [residual_Ends.j0, hd, bit_odd h0 (show r ≤ 1000000 by omega)]
    rw [if_neg (by simp; omega), if_pos (by omega), if_pos (by omega)]
    unfold fromOf toOf
    by_cases c : r % 2 = 1
    · rw [if_pos c, if_pos c, if_pos c]
    · rw [if_neg c, if_neg c, if_neg c]
  refine Ev.congr (fun k => ?_) e
  unfold residual_Ends.f
  rw [if_neg (by omega)]
theorem ends_range {n : Int} {l : List S49} {r : Int} (hg : ∀ a ∈ l, GoodArc n a) (h : InR l r) : 1 ≤ fromOf l r ∧ fromOf l r ≤ n ∧ 1 ≤ toOf l r ∧ toOf l r ≤ n := by
  obtain ⟨h0, h1⟩ := h
  obtain ⟨g0, g1, g2, g3, _⟩ := hg _ (rdT_mem (l := l) (i := r / 2) (by omega) (by omega))
  unfold fromOf toOf
  split <;> omega
theorem from_loop {n : Int} {l : List S49} {v : Int} (hl : l.length ≤ 2000) (d : Nat) : ∀ (i : Nat) (T : List Int), i + d = l.length → T.length ≤ 2 * i → (∀ r ∈ T, InR l r ∧ fromOf l r = v) →
    ∃ T', Ev (fun k => residual_From.l0 k v T l (l.length : Int) (i : Int)) T' ∧ T'.length ≤ 2 * l.length ∧ ∀ r ∈ T', InR l r ∧ fromOf l r = v := by
  induction d with
  | zero =>
    intro i T hi hT h
    refine ⟨T, Ev.step (f := fun _ => some T) (fun k => ?_) (Ev.now _), by omega, h⟩
    simp only [residual_From.l0]
    rw [if_neg (by omega)]
  | succ d ih =>
    intro i T hi hT h
    have hil : i < l.length := by omega
    have e0 : wrap64 (2 * (i : Int)) = 2 * (i : Int) := wrap_id (by omega) (by omega)
    have e1 : wrap64 (2 * (i : Int) + 1) = 2 * (i : Int) + 1 := wrap_id (by omega) (by omega)
    have q0 : InR l (2 * (i : Int)) := ⟨by omega, by omega⟩
    have q1 : InR l (2 * (i : Int) + 1) := ⟨by omega, by omega⟩
    have f0 : fromOf l (2 * (i : Int)) = (rd_T49 l (i : Int)).f0 := by
      unfold fromOf
      rw [if_neg (by omega), show (2 * (i : Int)) / 2 = (i : Int) by omega]
    have f1 : fromOf l (2 * (i : Int) + 1) = (rd_T49 l (i : Int)).f1 := by
      unfold fromOf
      rw [if_pos (by omega), show (2 * (i : Int) + 1) / 2 = (i : Int) by omega]
    by_cases c0 : (rd_T49 l (i : Int)).f0 = v
    · have h2 : ∀ r ∈ T ++ [2 * (i : Int)], InR l r ∧ fromOf l r = v := fun r hr => by
        rcases List.mem_append.1 hr with hr | hr
        · exact h r hr
        · obtain rfl := List.mem_singleton.1 hr
          exact ⟨q0, by rw [f0]; exact c0⟩
      by_cases c1 : (rd_T49 l (i : Int)).f1 = v
      · obtain ⟨T', hT', g⟩ := ih (i + 1) ((T ++ [2 * (i : Int)]) ++ [2 * (i : Int) + 1]) (by omega) (by simp; omega) (fun r hr => by
          rcases List.mem_append.1 hr with hr | hr
          · exact h2 r hr
          · obtain rfl := List.mem_singleton.1 hr
            exact ⟨q1, by rw [f1]; exact c1⟩)
        refine ⟨T', Ev.step (fun k => ?_) hT', g⟩
        simp only [residual_From.l0, e0, e1]
        rw [if_pos (by omega), if_pos (by omega), if_pos (by omega), if_pos c0, if_pos (by omega)]
        simp only [Option.bind_some]
        rw [if_pos c1, if_pos (by simp; omega), wrap_succ (by omega)]
      · obtain ⟨T', hT', g⟩ := ih (i + 1) (T ++ [2 * (i : Int)]) (by omega) (by simp; omega) h2
        refine ⟨T', Ev.step (fun k => ?_) hT', g⟩
        simp only [residual_From.l0, e0, e1]
        rw [if_pos (by omega), if_pos (by omega), if_pos (by omega), if_pos c0, if_pos (by omega)]
        simp only [Option.bind_some]
        rw [if_neg c1, wrap_succ (by omega)]
    · by_cases c1 : (rd_T49 l (i : Int)).f1 = v
      · obtain ⟨T', hT', g⟩ := ih (i + 1) (T ++ [2 * (i : Int) + 1]) (by omega) (by simp; omega) (fun r hr => by
          rcases List.mem_append.1 hr with hr | hr
          · exact h r hr
          · obtain rfl := List.mem_singleton.1 hr
            exact ⟨q1, by rw [f1]; exact c1⟩)
        refine ⟨T', Ev.step (fun k => ?_) hT', g⟩
        simp only [residual_From.l0, e0, e1]
        rw [if_pos (by omega), if_pos (by omega), if_pos (by omega), if_neg c0, if_pos c1, if_pos (by omega), wrap_succ (by omega)]
      · obtain ⟨T', hT', g⟩ := ih (i + 1) T (by omega) (by omega) h
        refine ⟨T', Ev.step (fun k => ?_) hT', g⟩
        simp only [residual_From.l0, e0, e1]
        rw [if_pos (by omega), if_pos (by omega), if_pos (by omega), if_neg c0, if_neg c1, wrap_succ (by omega)]
theorem from_ev {n s t v : Int} {l : List S49} (hl : l.length ≤ 2000) : ∃ T, Ev (fun k => residual_From.f k n s t l v) T ∧ T.length ≤ 2 * l.length ∧ ∀ r ∈ T, InR l r ∧ fromOf l r = v :=
  from_loop (n := n) hl l.length 0 [] (by omega) (by simp) (fun r h => by cases h)
/-- A walk along residual tracks. -/
def RPath (l : List S49) : Int → List Int → Int → Prop
  | u, [], v => u = v
  | u, r :: w, v => fromOf l r = u ∧ RPath l (toOf l r) w v
theorem RPath.snoc {l : List S49} : ∀ {w : List Int} {u v r : Int}, RPath l u w v → fromOf l r = v → RPath l u (w ++ [r]) (toOf l r)
  | [], u, v, r, h, hr => ⟨by rw [hr]; exact h.symm, rfl⟩
  | _ :: w, u, v, r, h, hr => ⟨h.1, RPath.snoc h.2 hr⟩
/-- What an amount m means for the arc. -/
def rm (r m : Int) : Int := if r % 2 = 1 then -m else m
theorem rm_add (r a b : Int) : rm r (a + b) = rm r a + rm r b := by unfold rm; split <;> omega
def rpush (f : List Int) (m : Int) : List Int → List Int
  | [] => f
  | r :: w => rpush (f.set (r / 2).toNat (rd f (r / 2) + rm r m)) m w
theorem rpush_length (m : Int) : ∀ (w : List Int) (f : List Int), (rpush f m w).length = f.length
  | [], _ => rfl
  | r :: w, f => by rw [rpush, rpush_length m w, List.length_set]
def dm (m i : Int) : List Int → Int
  | [] => 0
  | r :: w => (if r / 2 = i then rm r m else 0) + dm m i w
theorem dm_add (a b i : Int) : ∀ w, dm (a + b) i w = dm a i w + dm b i w
  | [] => rfl
  | r :: w => by
    simp only [dm, dm_add a b i w, rm_add]
    split <;> omega
theorem dm_zero (i : Int) : ∀ w, dm 0 i w = 0
  | [] => rfl
  | r :: w => by
    simp only [dm, dm_zero i w, rm]
    split <;> simp
theorem dm_not {m i : Int} : ∀ {w : List Int}, i ∉ w.map (· / 2) → dm m i w = 0
  | [], _ => rfl
  | r :: w, h => by
    simp only [List.map_cons, List.mem_cons, not_or] at h
    simp only [dm, dm_not h.2]
    rw [if_neg (fun e => h.1 e.symm)]; rfl
theorem dm_in {m : Int} : ∀ {w : List Int}, (w.map (· / 2)).Nodup → ∀ r ∈ w, dm m (r / 2) w = rm r m
  | [], _, r, h => by cases h
  | q :: w, hn, r, h => by
    simp only [List.map_cons, List.nodup_cons] at hn
    simp only [dm]
    rcases List.mem_cons.1 h with rfl | h
    · rw [if_pos rfl, dm_not hn.1]; omega
    · rw [if_neg (fun e => hn.1 (by rw [e]; exact List.mem_map_of_mem h)), dm_in hn.2 r h]; omega
theorem rpush_rd {m : Int} : ∀ {w : List Int} {f : List Int}, (∀ r ∈ w, 0 ≤ r ∧ r < 2 * (f.length : Int)) → ∀ i, 0 ≤ i → rd (rpush f m w) i = rd f i + dm m i w
  | [], f, _, i, _ => by simp [rpush, dm]
  | r :: w, f, h, i, hi => by
    obtain ⟨h0, h1⟩ := h r List.mem_cons_self
    rw [rpush, rpush_rd (fun q hq => by rw [List.length_set]; exact h q (List.mem_cons_of_mem _ hq)) i hi, rd_set (by omega) (by omega) hi]
    simp only [dm]
    by_cases e : r / 2 = i
    · rw [if_pos e, if_pos e, e]; omega
    · rw [if_neg e, if_neg e]; omega
theorem rd_ext {f g : List Int} (hl : f.length = g.length) (h : ∀ i, 0 ≤ i → rd f i = rd g i) : f = g := by
  refine List.ext_getElem hl (fun i h1 h2 => ?_)
  have := h (i : Int) (by omega)
  rwa [rd_get h1, rd_get h2] at this
theorem rpush_add {a b : Int} {w f : List Int} (h : ∀ r ∈ w, 0 ≤ r ∧ r < 2 * (f.length : Int)) : rpush (rpush f a w) b w = rpush f (a + b) w := by
  refine rd_ext (by rw [rpush_length, rpush_length, rpush_length]) (fun i hi => ?_)
  rw [rpush_rd (fun r hr => by rw [rpush_length]; exact h r hr) i hi, rpush_rd h i hi, rpush_rd h i hi, dm_add]; omega
theorem rpush_zero {w f : List Int} (h : ∀ r ∈ w, 0 ≤ r ∧ r < 2 * (f.length : Int)) : rpush f 0 w = f := by
  refine rd_ext (by rw [rpush_length]) (fun i hi => ?_)
  rw [rpush_rd h i hi, dm_zero]; omega
/-- The amount m fits along the walk. -/
def Fits (l : List S49) (f : List Int) (m : Int) (w : List Int) : Prop := ∀ r ∈ w, 0 ≤ rd f (r / 2) + rm r m ∧ rd f (r / 2) + rm r m ≤ (rd_T49 l (r / 2)).f2
theorem within_rd {l : List S49} {f : List Int} (W : Within l f) {i : Int} (h0 : 0 ≤ i) (h1 : i < (l.length : Int)) : 0 ≤ rd f i ∧ rd f i ≤ (rd_T49 l i).f2 := by
  have hlen := W.len
  have hb := W.get i.toNat (by omega) (by omega)
  rwa [rd_nat h0 (by omega) (by omega), rdT_nat h0 h1 (by omega)] at hb
theorem within_of_rd {l : List S49} {f : List Int} (hlen : f.length = l.length) (h : ∀ i, 0 ≤ i → i < (l.length : Int) → 0 ≤ rd f i ∧ rd f i ≤ (rd_T49 l i).f2) : Within l f :=
  Within.of hlen (fun i h1 h2 => by have := h (i : Int) (by omega) (by omega); rwa [rd_get h2, rdT_get h1] at this)
theorem rpush_within {l : List S49} {f w : List Int} {m : Int} (W : Within l f) (hw : ∀ r ∈ w, InR l r) (hn : (w.map (· / 2)).Nodup) (h : Fits l f m w) : Within l (rpush f m w) := by
  have hlen := W.len
  refine within_of_rd (by rw [rpush_length]; exact hlen) (fun i h0 h1 => ?_)
  rw [rpush_rd (fun r hr => by have := hw r hr; unfold InR at this; omega) i h0]
  by_cases c : i ∈ w.map (· / 2)
  · obtain ⟨r, hr, rfl⟩ := List.mem_map.1 c
    rw [dm_in hn r hr]; exact h r hr
  · rw [dm_not c]
    have := within_rd W h0 h1
    omega
theorem rpush_exc {l : List S49} {m v : Int} : ∀ {w : List Int} {f : List Int} {a b : Int}, RPath l a w b → f.length = l.length → (∀ r ∈ w, InR l r) →
    exc l (rpush f m w) v = exc l f v + ((if b = v then m else 0) - (if a = v then m else 0))
  | [], f, a, b, hp, _, _ => by
    have : a = b := hp
    subst this
    simp only [rpush]; omega
  | r :: w, f, a, b, hp, hlen, h => by
    obtain ⟨h0, h1⟩ := h r List.mem_cons_self
    obtain ⟨e0, hp⟩ := hp
    have hjl : (r / 2).toNat < l.length := by omega
    have hjf : (r / 2).toNat < f.length := by omega
    rw [rpush, rpush_exc hp (by rw [List.length_set]; exact hlen) (fun i hi => h i (List.mem_cons_of_mem _ hi)), exc_set (r / 2).toNat _ v hjl hjf, rd_nat (by omega) (by omega) hjf, rdT_nat (by omega) (by omega) hjl, ← e0]
    have e : rd f (r / 2) + rm r m - rd f (r / 2) = rm r m := by omega
    rw [e]
    unfold fromOf toOf rm
    by_cases c : r % 2 = 1
    · rw [if_pos c, if_pos c, if_pos c]
      split <;> split <;> split <;> omega
    · rw [if_neg c, if_neg c, if_neg c]
      split <;> split <;> split <;> omega
theorem rpush_flow {n s t m : Int} {l : List S49} {f w : List Int} (F : IsFlow n s t l f) (hp : RPath l s w t) (hw : ∀ r ∈ w, InR l r) (hn : (w.map (· / 2)).Nodup) (h : Fits l f m w) : IsFlow n s t l (rpush f m w) :=
  ⟨rpush_within F.within hw hn h, fun v h1 h2 h3 h4 => by
    rw [rpush_exc hp F.within.len hw, F.cons v h1 h2 h3 h4, if_neg (fun e => h4 e.symm), if_neg (fun e => h3 e.symm)]; rfl⟩
/-- The second loop of Push. -/
theorem push_set {l : List S49} {n s t m : Int} {w : List Int} (hw : ∀ r ∈ w, InR l r) (hl : l.length ≤ 2000) (hwl : w.length ≤ 1000000) (hm : 1 ≤ m) (hm2 : m ≤ 2000000000000) (hcap : ∀ a ∈ l, a.f2 < 1000000000000) (d : Nat) :
    ∀ (j : Nat) (f : List Int), j + d = w.length → Within l f → ((w.drop j).map (· / 2)).Nodup →
      (Fits l f m (w.drop j) → Ev (fun k => residual_Push.l1 k f m w (w.length : Int) (j : Int) n s t l) (rpush f m (w.drop j), 0)) ∧
      (¬ Fits l f m (w.drop j) → Ev (fun k => residual_Push.l1 k f m w (w.length : Int) (j : Int) n s t l) ([], 9)) := by
  induction d with
  | zero =>
    intro j f hj W hn
    rw [List.drop_of_length_le (by omega)]
    refine ⟨fun _ => Ev.step (f := fun _ => some (f, 0)) (fun k => ?_) (Ev.now _), fun h => absurd (fun r hr => by cases hr) h⟩
    simp only [residual_Push.l1]
    rw [if_neg (by omega)]
  | succ d ih =>
    intro j f hj W hn
    have hjw : j < w.length := by omega
    have hlen := W.len
    rw [List.drop_eq_getElem_cons hjw] at hn ⊢
    obtain ⟨r, hr⟩ : ∃ r, w[j] = r := ⟨_, rfl⟩
    rw [hr] at hn ⊢
    obtain ⟨h0, h1⟩ := hw r (by rw [← hr]; exact List.getElem_mem hjw)
    have hrd : rd w (j : Int) = r := by rw [rd_get hjw, hr]
    simp only [List.map_cons, List.nodup_cons] at hn
    have hc := hcap _ (rdT_mem (l := l) (i := r / 2) (by omega) (by omega))
    have hb := within_rd W (i := r / 2) (by omega) (by omega)
    have hd : wrap64 (Int.tdiv r 2) = r / 2 := by rw [tdiv2 h0, wrap_id (by omega) (by omega)]
    obtain ⟨x, hx⟩ : ∃ x, rd f (r / 2) = x := ⟨_, rfl⟩
    obtain ⟨c, hcc⟩ : ∃ c, (rd_T49 l (r / 2)).f2 = c := ⟨_, rfl⟩
    rw [hx, hcc] at hb
    rw [hcc] at hc
    have hrm : (r % 2 = 1 ∧ rm r m = -m) ∨ (¬ r % 2 = 1 ∧ rm r m = m) := by unfold rm; by_cases e : r % 2 = 1 <;> simp [e]
    have key : ∀ f', f' = f.set (r / 2).toNat (x + rm r m) → (0 ≤ x + rm r m ∧ x + rm r m ≤ c) → (Fits l f' m (w.drop (j + 1)) ↔ Fits l f m (w.drop (j + 1))) := fun f' e _ => by
      have z : ∀ q ∈ w.drop (j + 1), rd f' (q / 2) = rd f (q / 2) := fun q hq => by
        have hq0 := hw q (List.mem_of_mem_drop hq)
        have hq0 := hq0.1
        rw [e, rd_set (by omega) (by omega) (by omega), if_neg (fun e => hn.1 (by rw [e]; exact List.mem_map_of_mem hq))]
      exact ⟨fun h q hq => by rw [← z q hq]; exact h q hq, fun h q hq => by rw [z q hq]; exact h q hq⟩
    have go : (0 ≤ x + rm r m ∧ x + rm r m ≤ c) → ∀ res, Ev (fun k => residual_Push.l1 k (f.set (r / 2).toNat (x + rm r m)) m w (w.length : Int) ((j + 1 : Nat) : Int) n s t l) res → Ev (fun k => residual_Push.l1 k f m w (w.length : Int) (j : Int) n s t l) res := fun hf res hres => by
      refine Ev.step (fun k => ?_) hres
      simp only [residual_Push.l1, hrd, hd, bit_odd h0 (show r ≤ 1000000 by omega), hx, hcc]
      rw [if_pos (by omega), if_pos (by omega), if_pos (by omega)]
      rcases hrm with ⟨e, e'⟩ | ⟨e, e'⟩
      · rw [e'] at hf ⊢
        rw [if_pos e, if_pos (by omega), if_pos (by omega), if_pos (by omega), wrap_id (x := -m) (by omega) (by omega), wrap_id (x := c - -m) (by omega) (by omega), if_neg (by omega), wrap_id (x := - -m) (by omega) (by omega), if_neg (by omega), wrap_id (x := x + -m) (by omega) (by omega), wrap_succ (by omega)]
      · rw [e'] at hf ⊢
        rw [if_neg e, if_pos (by omega), if_pos (by omega), if_pos (by omega), wrap_id (x := c - m) (by omega) (by omega), if_neg (by omega), wrap_id (x := -m) (by omega) (by omega), if_neg (by omega), wrap_id (x := x + m) (by omega) (by omega), wrap_succ (by omega)]
    by_cases hf : 0 ≤ x + rm r m ∧ x + rm r m ≤ c
    · have W' : Within l (f.set (r / 2).toNat (x + rm r m)) := W.set _ _ hf.1 (fun h' => by rw [rdT_nat (by omega) (by omega) h', hcc]; exact hf.2)
      obtain ⟨a, b⟩ := ih (j + 1) _ (by omega) W' hn.2
      refine ⟨fun h => ?_, fun h => ?_⟩
      · have := a ((key _ rfl hf).2 (fun q hq => h q (List.mem_cons_of_mem _ hq)))
        rw [rpush, hx]
        exact go hf _ this
      · refine go hf _ (b (fun h' => h (fun q hq => ?_)))
        rcases List.mem_cons.1 hq with rfl | hq
        · rw [hx, hcc]; exact hf
        · exact (key _ rfl hf).1 h' q hq
    · refine ⟨fun h => absurd (by have := h r List.mem_cons_self; rwa [hx, hcc] at this) hf, fun _ => Ev.step (f := fun _ => some ([], 9)) (fun k => ?_) (Ev.now _)⟩
      simp only [residual_Push.l1, hrd, hd, bit_odd h0 (show r ≤ 1000000 by omega), hx, hcc]
      rw [if_pos (by omega), if_pos (by omega), if_pos (by omega)]
      rcases hrm with ⟨e, e'⟩ | ⟨e, e'⟩
      · rw [e'] at hf
        rw [if_pos e, if_pos (by omega), if_pos (by omega), if_pos (by omega), wrap_id (x := -m) (by omega) (by omega), wrap_id (x := c - -m) (by omega) (by omega), wrap_id (x := - -m) (by omega) (by omega)]
        by_cases e2 : x > c - -m
        · rw [if_pos e2]
        · rw [if_neg e2, if_pos (by omega)]
      · rw [e'] at hf
        rw [if_neg e, if_pos (by omega), if_pos (by omega), if_pos (by omega), wrap_id (x := c - m) (by omega) (by omega), wrap_id (x := -m) (by omega) (by omega)]
        by_cases e2 : x > c - m
        · rw [if_pos e2]
        · rw [if_neg e2, if_pos (by omega)]
/-- The first loop of Push. -/
theorem push_walk {l : List S49} {n s t m : Int} {f w : List Int} (hg : ∀ a ∈ l, GoodArc n a) (hw : ∀ r ∈ w, InR l r) (hl : l.length ≤ 2000) (hwl : w.length ≤ 1000000) (hst : s ≠ t) {v : Int} (res : List Int × Int)
    (H : Ev (fun k => residual_Push.j1 k f w m (if w.length = 0 then true else v != t) n s t l) res) (d : Nat) :
    ∀ (j : Nat) (u : Int), j + d = w.length → RPath l u (w.drop j) v → Ev (fun k => residual_Push.l0 k f w m u w (w.length : Int) (j : Int) n s t l) res := by
  induction d with
  | zero =>
    intro j u hj hp
    rw [List.drop_of_length_le (by omega)] at hp
    have e : u = v := hp
    subst e
    refine Ev.step (fun k => ?_) H
    simp only [residual_Push.l0]
    rw [if_neg (by omega)]
    by_cases c : w.length = 0
    · rw [if_pos (by omega), if_pos c]
    · rw [if_neg (by omega), if_neg c]
  | succ d ih =>
    intro j u hj hp
    have hjw : j < w.length := by omega
    rw [List.drop_eq_getElem_cons hjw] at hp
    obtain ⟨e0, hp⟩ := hp
    have hr := hw _ (List.getElem_mem hjw)
    obtain ⟨g0, g1, g2, g3⟩ := ends_range hg hr
    refine Ev.step (f := ?g) (fun k => ?h) ?e
    case h =>
      simp only [residual_Push.l0]
      rw [if_pos (by omega), if_pos (by omega), if_pos (by omega), rd_get hjw]
    case e =>
      refine Ev.bind (ends_ev hr hl) ?_
      simp only [if_pos e0, if_neg (show ¬ toOf l w[j] = 0 by omega)]
      refine Ev.congr (fun k => ?_) (ih (j + 1) (toOf l w[j]) (by omega) hp)
      rw [wrap_succ (by omega)]
theorem push_arg {n s t m v : Int} {l : List S49} {f w : List Int} (R : Right n s t l) (F : IsFlow n s t l f) (hw : ∀ r ∈ w, InR l r) (hwl : w.length ≤ 1000000) (hp : RPath l s w v) (hv : v ≠ t) : Ev (fun k => residual_Push.f k n s t l f w m) ([], 1) := by
  refine Ev.bind (check_flow R F) ?_
  simp only [if_true]
  refine push_walk R.arcs hw R.len hwl R.ne (v := v) ([], 1) ?_ w.length 0 s (by omega) (by simpa using hp)
  refine Ev.step (f := fun _ => some ([], 1)) (fun k => ?_) (Ev.now _)
  simp only [residual_Push.j1]
  rw [if_pos]
  split
  · rfl
  · simpa using hv
theorem push_both {n s t m : Int} {l : List S49} {f w : List Int} (R : Right n s t l) (F : IsFlow n s t l f) (hw : ∀ r ∈ w, InR l r) (hwl : w.length ≤ 1000000) (hp : RPath l s w t) (hn : (w.map (· / 2)).Nodup) (hm : 1 ≤ m) (hm2 : m ≤ 2000000000000) (hcap : ∀ a ∈ l, a.f2 < 1000000000000) :
    (Fits l f m w → Ev (fun k => residual_Push.f k n s t l f w m) (rpush f m w, 0)) ∧ (¬ Fits l f m w → Ev (fun k => residual_Push.f k n s t l f w m) ([], 9)) := by
  have hne : w.length ≠ 0 := fun e => by
    rw [List.length_eq_zero_iff] at e
    rw [e] at hp
    exact R.ne hp
  have hlen := F.within.len
  have hl := R.len
  have go : ∀ res, Ev (fun k => residual_Push.l1 k f m w (w.length : Int) 0 n s t l) res → Ev (fun k => residual_Push.f k n s t l f w m) res := fun res hres => by
    refine Ev.bind (check_flow R F) ?_
    simp only [if_true]
    refine push_walk R.arcs hw R.len hwl R.ne (v := t) res ?_ w.length 0 s (by omega) (by simpa using hp)
    refine Ev.step (fun k => ?_) hres
    simp only [residual_Push.j1, clone64.f]
    rw [if_neg hne, if_neg (by simp), if_neg (by omega), if_pos (by omega)]
    rfl
  obtain ⟨a, b⟩ := push_set (n := n) (s := s) (t := t) hw R.len hwl hm hm2 hcap w.length 0 f (by omega) F.within (by simpa using hn)
  exact ⟨fun h => go _ (by simpa using a (by simpa using h)), fun h => go _ (by simpa using b (by simpa using h))⟩
end Go.Proofs.Ytbppeffcikphcaa.Pure
