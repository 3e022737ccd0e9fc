/- Plain lists and numbers, for the law ResidualRooms: no program and no memory. -/
import Derived.Test.YtjbeofcgnnlllaaPResidualRoomsx0
import Derived.Test.YtjbeofcgnnlllaaPResidualRoomsx12
import Derived.Test.YtjbeofcgnnlllaaPResidualRoomsx13
import Derived.Test.YtjbeofcgnnlllaaMResidualRoomsBase
import Derived.Test.YtjbeofcgnnlllaaMResidualRoomsPick
import Derived.Test.YtjbeofcgnnlllaaMResidualRoomsMade
import Derived.Test.YtjbeofcgnnlllaaMResidualRoomsFlowmath
import Derived.Test.YtjbeofcgnnlllaaMResidualRoomsFlowfun
import Derived.Test.YtjbeofcgnnlllaaMResidualRoomsWalk
import Derived.Test.YtjbeofcgnnlllaaMResidualRoomsRouted
import Derived.Lib.RabinKarpLaws
set_option linter.unusedVariables false
namespace Go.Proofs.Ytjbeofcgnnlllaa.Pure
open Go.RowKit Go.Proofs.Ytjbeofcgnnlllaa.PResidualRooms Go.Proofs.YtjbeofcgnnlllaaW.PrintWords Go.Proofs.YtjbeofcgnnlllaaW.PrintLast
/-! Residual tracks: r leads along arc r/2, backwards where r is odd. -/
theorem bit_odd {r : Int} (h0 : 0 ≤ r) (h1 : r ≤ 1000000) : Go.bits .and .i64 r 1 = r % 2 := by
  obtain ⟨i, rfl⟩ : ∃ i : Nat, r = (i : Int) := ⟨r.toNat, by omega⟩
  rw [Go.Proofs.and_one i (by omega)]; omega
theorem tdiv2 {r : Int} (h0 : 0 ≤ r) : Int.tdiv r 2 = r / 2 := Int.tdiv_eq_ediv_of_nonneg h0
def fromOf (l : List S28) (r : Int) : Int := if r % 2 = 1 then (rd_T28 l (r / 2)).f1 else (rd_T28 l (r / 2)).f0
def toOf (l : List S28) (r : Int) : Int := if r % 2 = 1 then (rd_T28 l (r / 2)).f0 else (rd_T28 l (r / 2)).f1
def InR (l : List S28) (r : Int) : Prop := 0 ≤ r ∧ r < 2 * (l.length : Int)
theorem ends_ev {n s t r : Int} {l : List S28} (h : InR l r) (hl : l.length ≤ 2000) : Ev (fun k => residual_Ends.f k n s t l r) (fromOf l r, toOf l r) := by
  obtain ⟨h0, h1⟩ := h
  have hd : wrap64 (Int.tdiv r 2) = r / 2 := by rw [tdiv2 h0, wrap_id (by omega) (by omega)]
  have e : Ev (fun k => residual_Ends.j0 k r (decide (wrap64 (Int.tdiv r 2) ≥ (l.length : Int))) n s t l) (fromOf l r, toOf l r) := by
    refine Ev.step (f := fun _ => some (fromOf l r, toOf l r)) (fun k => ?_) (Ev.now _)
    simp only [residual_Ends.j0, hd, bit_odd h0 (show r ≤ 1000000 by omega)]
    rw [if_neg (by simp; omega), if_pos (by omega), if_pos (by omega)]
    unfold fromOf toOf
    by_cases c : r % 2 = 1
    · rw [if_pos c, if_pos c, if_pos c]
    · rw [if_neg c, if_neg c, if_neg c]
  refine Ev.congr (fun k => ?_) e
  unfold residual_Ends.f
  rw [if_neg (by omega)]
theorem ends_range {n : Int} {l : List S28} {r : Int} (hg : ∀ a ∈ l, GoodArc n a) (h : InR l r) : 1 ≤ fromOf l r ∧ fromOf l r ≤ n ∧ 1 ≤ toOf l r ∧ toOf l r ≤ n := by
  obtain ⟨h0, h1⟩ := h
  obtain ⟨g0, g1, g2, g3, _⟩ := hg _ (rdT_mem (l := l) (i := r / 2) (by omega) (by omega))
  unfold fromOf toOf
  split <;> omega
theorem from_loop {n : Int} {l : List S28} {v : Int} (hl : l.length ≤ 2000) (d : Nat) : ∀ (i : Nat) (T : List Int), i + d = l.length → T.length ≤ 2 * i → (∀ r ∈ T, InR l r ∧ fromOf l r = v) →
    ∃ T', Ev (fun k => residual_From.l0 k v T l (l.length : Int) (i : Int)) T' ∧ T'.length ≤ 2 * l.length ∧ ∀ r ∈ T', InR l r ∧ fromOf l r = v := by
  induction d with
  | zero =>
    intro i T hi hT h
    refine ⟨T, Ev.step (f := fun _ => some T) (fun k => ?_) (Ev.now _), by omega, h⟩
    simp only [residual_From.l0]
    rw [if_neg (by omega)]
  | succ d ih =>
    intro i T hi hT h
    have hil : i < l.length := by omega
    have e0 : wrap64 (2 * (i : Int)) = 2 * (i : Int) := wrap_id (by omega) (by omega)
    have e1 : wrap64 (2 * (i : Int) + 1) = 2 * (i : Int) + 1 := wrap_id (by omega) (by omega)
    have q0 : InR l (2 * (i : Int)) := ⟨by omega, by omega⟩
    have q1 : InR l (2 * (i : Int) + 1) := ⟨by omega, by omega⟩
    have f0 : fromOf l (2 * (i : Int)) = (rd_T28 l (i : Int)).f0 := by
      unfold fromOf
      rw [if_neg (by omega), show (2 * (i : Int)) / 2 = (i : Int) by omega]
    have f1 : fromOf l (2 * (i : Int) + 1) = (rd_T28 l (i : Int)).f1 := by
      unfold fromOf
      rw [if_pos (by omega), show (2 * (i : Int) + 1) / 2 = (i : Int) by omega]
    by_cases c0 : (rd_T28 l (i : Int)).f0 = v
    · have h2 : ∀ r ∈ T ++ [2 * (i : Int)], InR l r ∧ fromOf l r = v := fun r hr => by
        rcases List.mem_append.1 hr with hr | hr
        · exact h r hr
        · obtain rfl := List.mem_singleton.1 hr
          exact ⟨q0, by rw [f0]; exact c0⟩
      by_cases c1 : (rd_T28 l (i : Int)).f1 = v
      · obtain ⟨T', hT', g⟩ := ih (i + 1) ((T ++ [2 * (i : Int)]) ++ [2 * (i : Int) + 1]) (by omega) (by simp; omega) (fun r hr => by
          rcases List.mem_append.1 hr with hr | hr
          · exact h2 r hr
          · obtain rfl := List.mem_singleton.1 hr
            exact ⟨q1, by rw [f1]; exact c1⟩)
        refine ⟨T', Ev.step (fun k => ?_) hT', g⟩
        simp only [residual_From.l0, e0, e1]
        rw [if_pos (by omega), if_pos (by omega), if_pos (by omega), if_pos c0, if_pos (by omega)]
        simp only [Option.bind_some]
        rw [if_pos c1, if_pos (by simp; omega), wrap_succ (by omega)]
      · obtain ⟨T', hT', g⟩ := ih (i + 1) (T ++ [2 * (i : Int)]) (by omega) (by simp; omega) h2
        refine ⟨T', Ev.step (fun k => ?_) hT', g⟩
        simp only [residual_From.l0, e0, e1]
        rw [if_pos (by omega), if_pos (by omega), if_pos (by omega), if_pos c0, if_pos (by omega)]
        simp only [Option.bind_some]
        rw [if_neg c1, wrap_succ (by omega)]
    · by_cases c1 : (rd_T28 l (i : Int)).f1 = v
      · obtain ⟨T', hT', g⟩ := ih (i + 1) (T ++ [2 * (i : Int) + 1]) (by omega) (by simp; omega) (fun r hr => by
          rcases List.mem_append.1 hr with hr | hr
          · exact h r hr
          · obtain rfl := List.mem_singleton.1 hr
            exact ⟨q1, by rw [f1]; exact c1⟩)
        refine ⟨T', Ev.step (fun k => ?_) hT', g⟩
        simp only [residual_From.l0, e0, e1]
        rw [if_pos (by omega), if_pos (by omega), if_pos (by omega), if_neg c0, if_pos c1, if_pos (by omega), wrap_succ (by omega)]
      · obtain ⟨T', hT', g⟩ := ih (i + 1) T (by omega) (by omega) h
        refine ⟨T', Ev.step (fun k => ?_) hT', g⟩
        simp only [residual_From.l0, e0, e1]
        rw [if_pos (by omega), if_pos (by omega), if_pos (by omega), if_neg c0, if_neg c1, wrap_succ (by omega)]
theorem from_ev {n s t v : Int} {l : List S28} (hl : l.length ≤ 2000) : ∃ T, Ev (fun k => residual_From.f k n s t l v) T ∧ T.length ≤ 2 * l.length ∧ ∀ r ∈ T, InR l r ∧ fromOf l r = v :=
  from_loop (n := n) hl l.length 0 [] (by omega) (by simp) (fun r h => by cases h)
/-- A walk along residual tracks. -/
def RPath (l : List S28) : Int → List Int → Int → Prop
  | u, [], v => u = v
  | u, r :: w, v => fromOf l r = u ∧ RPath l (toOf l r) w v
theorem RPath.snoc {l : List S28} : ∀ {w : List Int} {u v r : Int}, RPath l u w v → fromOf l r = v → RPath l u (w ++ [r]) (toOf l r)
  | [], u, v, r, h, hr => ⟨by rw [hr]; exact h.symm, rfl⟩
  | _ :: w, u, v, r, h, hr => ⟨h.1, RPath.snoc h.2 hr⟩
/-- What an amount m means for the arc. -/
def rm (r m : Int) : Int := if r % 2 = 1 then -m else m
theorem rm_add (r a b : Int) : rm r (a + b) = rm r a + rm r b := by unfold rm; split <;> omega
def rpush (f : List Int) (m : Int) : List Int → List Int
  | [] => f
  | r :: w => rpush (f.set (r / 2).toNat (rd f (r / 2) + rm r m)) m w
theorem rpush_length (m : Int) : ∀ (w : List Int) (f : List Int), (rpush f m w).length = f.length
  | [], _ => rfl
  | r :: w, f => by rw [rpush, rpush_length m w, List.length_set]
def dm (m i : Int) : List Int → Int
  | [] => 0
  | r :: w => (if r / 2 = i then rm r m else 0) + dm m i w
theorem dm_add (a b i : Int) : ∀ w, dm (a + b) i w = dm a i w + dm b i w
  | [] => rfl
  | r :: w => by
    simp only [dm, dm_add a b i w, rm_add]
    split <;> omega
theorem dm_zero (i : Int) : ∀ w, dm 0 i w = 0
  | [] => rfl
  | r :: w => by
    simp only [dm, dm_zero i w, rm]
    split <;> simp
theorem dm_not {m i : Int} : ∀ {w : List Int}, i ∉ w.map (· / 2) → dm m i w = 0
  | [], _ => rfl
  | r :: w, h => by
    simp only [List.map_cons, List.mem_cons, not_or] at h
    simp only [dm, dm_not h.2]
    rw [if_neg (fun e => h.1 e.symm)]; rfl
theorem dm_in {m : Int} : ∀ {w : List Int}, (w.map (· / 2)).Nodup → ∀ r ∈ w, dm m (r / 2) w = rm r m
  | [], _, r, h => by cases h
  | q :: w, hn, r, h => by
    simp only [List.map_cons, List.nodup_cons] at hn
    simp only [dm]
    rcases List.mem_cons.1 h with rfl | h
    · rw [if_pos rfl, dm_not hn.1]; omega
    · rw [if_neg (fun e => hn.1 (by rw [e]; exact List.mem_map_of_mem h)), dm_in hn.2 r h]; omega
theorem rpush_rd {m : Int} : ∀ {w : List Int} {f : List Int}, (∀ r ∈ w, 0 ≤ r ∧ r < 2 * (f.length : Int)) → ∀ i, 0 ≤ i → rd (rpush f m w) i = rd f i + dm m i w
  | [], f, _, i, _ => by simp [rpush, dm]
  | r :: w, f, h, i, hi => by
    obtain ⟨h0, h1⟩ := h r List.mem_cons_self
    rw [rpush, rpush_rd (fun q hq => by rw [List.length_set]; exact h q (List.mem_cons_of_mem _ hq)) i hi, rd_set (by omega) (by omega) hi]
    simp only [dm]
    by_cases e : r / 2 = i
    · rw [if_pos e, if_pos e, e]; omega
    · rw [if_neg e, if_neg e]; omega
theorem rd_ext {f g : List Int} (hl : f.length = g.length) (h : ∀ i, 0 ≤ i → rd f i = rd g i) : f = g := by
  refine List.ext_getElem hl (fun i h1 h2 => ?_)
  have := h (i : Int) (by omega)
  rwa [rd_get h1, rd_get h2] at this
theorem rpush_add {a b : Int} {w f : List Int} (h : ∀ r ∈ w, 0 ≤ r ∧ r < 2 * (f.length : Int)) : rpush (rpush f a w) b w = rpush f (a + b) w := by
  refine rd_ext (by rw [rpush_length, rpush_length, rpush_length]) (fun i hi => ?_)
  rw [rpush_rd (fun r hr => by rw [rpush_length]; exact h r hr) i hi, rpush_rd h i hi, rpush_rd h i hi, dm_add]; omega
theorem rpush_zero {w f : List Int} (h : ∀ r ∈ w, 0 ≤ r ∧ r < 2 * (f.length : Int)) : rpush f 0 w = f := by
  refine rd_ext (by rw [rpush_length]) (fun i hi => ?_)
  rw [rpush_rd h i hi, dm_zero]; omega
/-- The amount m fits along the walk. -/
def Fits (l : List S28) (f : List Int) (m : Int) (w : List Int) : Prop := ∀ r ∈ w, 0 ≤ rd f (r / 2) + rm r m ∧ rd f (r / 2) + rm r m ≤ (rd_T28 l (r / 2)).f2
theorem within_rd {l : List S28} {f : List Int} (W : Within l f) {i : Int} (h0 : 0 ≤ i) (h1 : i < (l.length : Int)) : 0 ≤ rd f i ∧ rd f i ≤ (rd_T28 l i).f2 := by
  have hlen := W.len
  have hb := W.get i.toNat (by omega) (by omega)
  rwa [rd_nat h0 (by omega) (by omega), rdT_nat h0 h1 (by omega)] at hb
theorem within_of_rd {l : List S28} {f : List Int} (hlen : f.length = l.length) (h : ∀ i, 0 ≤ i → i < (l.length : Int) → 0 ≤ rd f i ∧ rd f i ≤ (rd_T28 l i).f2) : Within l f :=
  Within.of hlen (fun i h1 h2 => by have := h (i : Int) (by omega) (by omega); rwa [rd_get h2, rdT_get h1] at this)
theorem rpush_within {l : List S28} {f w : List Int} {m : Int} (W : Within l f) (hw : ∀ r ∈ w, InR l r) (hn : (w.map (· / 2)).Nodup) (h : Fits l f m w) : Within l (rpush f m w) := by
  have hlen := W.len
  refine within_of_rd (by rw [rpush_length]; exact hlen) (fun i h0 h1 => ?_)
  rw [rpush_rd (fun r hr => by have := hw r hr; unfold InR at this; omega) i h0]
  by_cases c : i ∈ w.map (· / 2)
  · obtain ⟨r, hr, rfl⟩ := List.mem_map.1 c
    rw [dm_in hn r hr]; exact h r hr
  · rw [dm_not c]
    have := within_rd W h0 h1
    omega
theorem rpush_exc {l : List S28} {m v : Int} : ∀ {w : List Int} {f : List Int} {a b : Int}, RPath l a w b → f.length = l.length → (∀ r ∈ w, InR l r) →
    exc l (rpush f m w) v = exc l f v + ((if b = v then m else 0) - (if a = v then m else 0))
  | [], f, a, b, hp, _, _ => by
    have : a = b := hp
    subst this
    simp only [rpush]; omega
  | r :: w, f, a, b, hp, hlen, h => by
    obtain ⟨h0, h1⟩ := h r List.mem_cons_self
    obtain ⟨e0, hp⟩ := hp
    have hjl : (r / 2).toNat < l.length := by omega
    have hjf : (r / 2).toNat < f.length := by omega
    rw [rpush, rpush_exc hp (by rw [List.length_set]; exact hlen) (fun i hi => h i (List.mem_cons_of_mem _ hi)), exc_set (r / 2).toNat _ v hjl hjf, rd_nat (by omega) (by omega) hjf, rdT_nat (by omega) (by omega) hjl, ← e0]
    have e : rd f (r / 2) + rm r m - rd f (r / 2) = rm r m := by omega
    rw [e]
    unfold fromOf toOf rm
    by_cases c : r % 2 = 1
    · rw [if_pos c, if_pos c, if_pos c]
      split <;> split <;> split <;> omega
    · rw [if_neg c, if_neg c, if_neg c]
      split <;> split <;> split <;> omega
theorem rpush_flow {n s t m : Int} {l : List S28} {f w : List Int} (F : IsFlow n s t l f) (hp : RPath l s w t) (hw : ∀ r ∈ w, InR l r) (hn : (w.map (· / 2)).Nodup) (h : Fits l f m w) : IsFlow n s t l (rpush f m w) :=
  ⟨rpush_within F.within hw hn h, fun v h1 h2 h3 h4 => by
    rw [rpush_exc hp F.within.len hw, F.cons v h1 h2 h3 h4, if_neg (fun e => h4 e.symm), if_neg (fun e => h3 e.symm)]; rfl⟩
end Go.Proofs.Ytjbeofcgnnlllaa.Pure
