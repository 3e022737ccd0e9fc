/- Ways down, trees rooted anew there and back; the forest's calls, whatever they tell. -/
import Derived.Test.YtcnmbgijehnchaaM0
set_option linter.unusedVariables false
set_option linter.unusedSimpArgs false
namespace Go.Proofs.YtcnmbgijehnchaaW.Splay
open Go.RowKit Go.Shelf Go.Proofs.YtcnmbgijehnchaaW.PrintWords Go.Proofs.YtcnmbgijehnchaaW.PrintLast Go.Proofs.YtcnmbgijehnchaaW.PrintMore Go.Proofs.YtcnmbgijehnchaaW.Mine
/-- The array of who is above whom, as far as it was filled. -/
def backArr (up : Int → Int) (v : Nat) : Nat → Value := fun j => .int .i64 (if j < v then up (j : Int) else 0)
theorem back_at {up : Int → Int} {v j : Nat} (h : j < v) : backArr up v j = Value.int .i64 (up (j : Int)) := by
  unfold backArr
  rw [if_pos h]
theorem back_arr {up : Int → Int} {v : Nat} (j : Nat) : (if j = v then Value.int .i64 (up (v : Int)) else backArr up v j) = backArr up (v + 1) j := by
  unfold backArr
  by_cases c : j = v
  · rw [if_pos c, if_pos (by omega), c]
  · rw [if_neg c]
    by_cases c2 : j < v
    · rw [if_pos c2, if_pos (by omega)]
    · rw [if_neg c2, if_neg (by omega)]
section
variable {D : Ad} {w0 w w1 : World} {up val : Int → Int} {N v x y r s : Int} {p q a b : List Int} {n j : Nat}
theorem Way.last_ (h : Way N up v p) : ∃ a r, p = a ++ [r] := ⟨p.dropLast, p.getLast h.path.ne, (List.dropLast_concat_getLast h.path.ne).symm⟩
theorem Way.len (h : Way N up v p) (hN : N = (n : Int)) : p.length ≤ n := nod_len n p h.nodup (fun x hx => by rw [← hN]; exact h.rng x hx)
theorem down_first : (a ++ [r]).reverse[0]? = some r := by simp
theorem down_end (h : Way N up v (a ++ [r])) : (a ++ [r]).reverse[a.length]? = some v := by
  rw [List.getElem?_reverse (by simp)]
  have e : (a ++ [r]).length - 1 - a.length = 0 := by simp
  rw [e, ← List.head?_eq_getElem?]
  exact h.head
theorem down_step (h : Way N up v (a ++ [r])) (hj : j < a.length) : ∃ b y z, (a ++ [r]).reverse[j + 1]? = some y ∧ (a ++ [r]).reverse[j]? = some z ∧ up y = z ∧ Way N up y (b ++ [r]) := by
  obtain ⟨q, hq⟩ : ∃ q, a.length - (j + 1) = q := ⟨_, rfl⟩
  have hl : (a ++ [r]).length = a.length + 1 := by simp
  have h1 : q < (a ++ [r]).length := by omega
  have h2 : q + 1 < (a ++ [r]).length := by omega
  have e1 : (a ++ [r]).drop q = (a ++ [r])[q] :: (a ++ [r])[q + 1] :: (a ++ [r]).drop (q + 1 + 1) := by
    rw [List.drop_eq_getElem_cons h1, List.drop_eq_getElem_cons h2]
  have e2 : (a ++ [r]).drop q = a.drop q ++ [r] := List.drop_append_of_le_length (by omega)
  have e3 : a ++ [r] = (a ++ [r]).take q ++ (a ++ [r])[q] :: (a ++ [r])[q + 1] :: (a ++ [r]).drop (q + 1 + 1) := by
    rw [← e1, List.take_append_drop]
  have h3 : Way N up v ((a ++ [r]).take q ++ (a ++ [r])[q] :: (a ++ [r])[q + 1] :: (a ++ [r]).drop (q + 1 + 1)) := by
    rw [← e3]; exact h
  have h4 := h3.sub
  refine ⟨a.drop q, (a ++ [r])[q], (a ++ [r])[q + 1], ?_, ?_, h4.up.1, ?_⟩
  · rw [List.getElem?_reverse (by omega), show (a ++ [r]).length - 1 - (j + 1) = q by omega, List.getElem?_eq_getElem h1]
  · rw [List.getElem?_reverse (by omega), show (a ++ [r]).length - 1 - j = q + 1 by omega, List.getElem?_eq_getElem h2]
  · rw [← e2, e1]
    exact h4
theorem turn_turn (h : IsPath up p) (hn : p.Nodup) : turnUp (turnUp up p) p.reverse = up := by
  funext z
  by_cases hz : z ∈ p
  · obtain ⟨c, d, e⟩ := List.append_of_mem hz
    subst e
    have hr : (c ++ z :: d).reverse.Nodup := (List.reverse_perm _).nodup_iff.2 hn
    rw [List.reverse_append, List.reverse_cons] at hr ⊢
    cases d with
    | nil =>
      rw [List.reverse_nil, List.nil_append, List.singleton_append] at hr ⊢
      rw [turnUp_head hr]
      exact (IsPath.last h).symm
    | cons u d =>
      rw [List.reverse_cons, List.append_assoc, List.append_assoc, List.singleton_append, List.singleton_append] at hr ⊢
      rw [turnUp_at hr]
      exact (Seg.mid h.seg).symm
  · rw [turnUp_out (fun h2 => hz (List.mem_reverse.1 h2)), turnUp_out hz]
theorem turn_way (h : Way N up v (a ++ [r])) : ∃ c, (a ++ [r]).reverse = c ++ [v] ∧ Way N (turnUp up (a ++ [r])) r (c ++ [v]) := by
  obtain ⟨l, e⟩ := h.cons
  refine ⟨l.reverse, by rw [e, List.reverse_cons], ?_⟩
  have e2 : l.reverse ++ [v] = (a ++ [r]).reverse := by rw [e, List.reverse_cons]
  rw [e2]
  refine ⟨?_, by simp, fun z hz => h.rng z (List.mem_reverse.1 hz)⟩
  rw [List.reverse_append]
  exact turn_path (c := a) (d := []) h.nodup
theorem way_self (h : Way N up x (a ++ [x])) : up x = -1 := IsPath.last h.path
theorem way_top (h : Way N up x (a ++ [x])) : Way N up x [x] := Way.mk_root h.inN.1 h.inN.2 (way_self h)
theorem not_on (hx : up x = -1) (hq : Way N up y (b ++ [s])) (hs : s ≠ x) : x ∉ b ++ [s] := fun hv => by
  obtain ⟨c, d, e⟩ := List.append_of_mem hv
  have h1 : Way N up x (x :: d) := (e ▸ hq).sub
  have h2 : Way N up x [x] := Way.mk_root h1.inN.1 h1.inN.2 hx
  rw [h1.uniq h2] at e
  have h3 := congrArg List.getLast? e
  simp at h3
  exact hs h3
theorem linked (hx : up x = -1) (h0 : 0 ≤ x) (h1 : x < N) (hq : Way N up y (b ++ [s])) (hn : x ∉ b ++ [s]) : Way N (put up x y) y (b ++ [s]) ∧ Way N (put up x y) x ((x :: b) ++ [s]) ∧ put up x y x = y ∧ put (put up x y) x (-1) = up := by
  have h2 := Way.link hx hq hn hq
  rw [if_neg hn] at h2
  refine ⟨h2, Way.mk_up h0 h1 (put_same _ _ _) h2, put_same _ _ _, ?_⟩
  funext z
  by_cases c : z = x
  · rw [c, put_same, hx]
  · rw [put_ne c, put_ne c]
theorem link_any (h : Tm D w0 w up val) (h0 : 0 ≤ v) (h1 : v < (D.N : Int)) (h2 : 0 ≤ x) (h3 : x < (D.N : Int)) :
    Calls Try.prog 30 #[.pointer (some ⟨D.gt, 0, none⟩), .int .i64 v, .int .i64 x] w fun e w' => ∃ r up', e = .returned (.int .i64 r) ∧ Tm D w0 w' up' val ∧ Kt D w w' := by
  obtain ⟨p, hp⟩ := h.ok v h0 h1
  obtain ⟨q, hq⟩ := h.ok x h2 h3
  obtain ⟨a, r, rfl⟩ := hp.last_
  obtain ⟨b, s, rfl⟩ := hq.last_
  refine (link_calls h hp hq).mono ?_
  rintro e w' ⟨⟨_, e1, e2⟩ | ⟨_, _, e1, e2⟩ | ⟨_, _, e1, e2⟩, e3⟩
  · exact ⟨_, _, e1, e2, e3⟩
  · exact ⟨_, _, e1, e2, e3⟩
  · exact ⟨_, _, e1, e2, e3⟩
theorem link_no (h : Tm D w0 w up val) (hp : Way (D.N : Int) up v (a ++ [r])) (hr : r ≠ v) (h2 : 0 ≤ x) (h3 : x < (D.N : Int)) :
    Calls Try.prog 30 #[.pointer (some ⟨D.gt, 0, none⟩), .int .i64 v, .int .i64 x] w fun e w' => e = .returned (.int .i64 9) ∧ Tm D w0 w' up val ∧ Kt D w w' := by
  obtain ⟨q, hq⟩ := h.ok x h2 h3
  obtain ⟨b, s, rfl⟩ := hq.last_
  refine (link_calls h hp hq).mono ?_
  rintro e w' ⟨⟨_, e1, e2⟩ | ⟨e0, _⟩ | ⟨e0, _⟩, e3⟩
  · exact ⟨e1, e2, e3⟩
  · exact absurd e0 hr
  · exact absurd e0 hr
theorem cut_any (h : Tm D w0 w up val) (h0 : 0 ≤ v) (h1 : v < (D.N : Int)) :
    Calls Try.prog 31 #[.pointer (some ⟨D.gt, 0, none⟩), .int .i64 v] w fun e w' => ∃ r up', e = .returned (.int .i64 r) ∧ Tm D w0 w' up' val ∧ Kt D w w' := by
  refine (cut_calls h h0 h1).mono ?_
  rintro e w' ⟨⟨_, e1⟩ | ⟨_, e1⟩, e2, e3⟩
  · exact ⟨_, _, e1, e2, e3⟩
  · exact ⟨_, _, e1, e2, e3⟩
theorem evert_any (h : Tm D w0 w up val) (h0 : 0 ≤ v) (h1 : v < (D.N : Int)) :
    Calls Try.prog 35 #[.pointer (some ⟨D.gt, 0, none⟩), .int .i64 v] w fun e w' => ∃ r up', e = .returned (.int .i64 r) ∧ Tm D w0 w' up' val ∧ Kt D w w' := by
  obtain ⟨p, hp⟩ := h.ok v h0 h1
  refine (evert_calls h hp).mono ?_
  rintro e w' ⟨e1, e2, e3⟩
  exact ⟨_, _, e1, e2, e3⟩
end
end Go.Proofs.YtcnmbgijehnchaaW.Splay
