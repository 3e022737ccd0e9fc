/- Rows of whole numbers that lie apart, told by a ghost 'own' (block to owner), and a row of such rows (written by hand). -/
import Derived.Test.YtcnmbgijehnchaaWWords
import Derived.Test.YtcnmbgijehnchaaWApart
set_option linter.unusedVariables false
namespace Go.Proofs.YtcnmbgijehnchaaW.Mine
open Go.RowKit Go.Proofs.YtcnmbgijehnchaaW.PrintWords
/-- A row of whole numbers of the call's own, in a block that 'own' gives to 'tag'. -/
def Rw (own : Nat → Nat) (tag : Nat) (e : Nat) (W : World) (base : Nat) (v : Value) (xs : List Int) : Prop := (Kd.int .i64).R e W base (fun k => own k = tag) v xs
def Bx (own : Nat → Nat) (tag : Nat) (t : Nat) (W : World) (base : Nat) (g : Nat) (cs : Array Value) : Prop := own g = tag ∧ base ≤ g ∧ W.heap[g]? = some (.cells cs t (0, 0))
/-- Of all blocks but tag T's nothing has turned, and own' goes on own. -/
structure Stay (own own' : Nat → Nat) (T : Nat → Prop) (W W1 : World) : Prop where
  heap : ∀ k, k < W.heap.size → ¬ T (own k) → W1.heap[k]? = W.heap[k]?
  own : ∀ k, k < W.heap.size → own' k = own k
theorem Stay.same {own : Nat → Nat} {T : Nat → Prop} {W W1 : World} (h : ∀ k, k < W.heap.size → ¬ T (own k) → W1.heap[k]? = W.heap[k]?) : Stay own own T W W1 := ⟨h, fun _ _ => rfl⟩
theorem Stay.below {own : Nat → Nat} {T : Nat → Prop} {W W1 : World} (h : Below W.heap.size W W1) : Stay own own T W W1 := ⟨fun k hk _ => h.block k hk, fun _ _ => rfl⟩
theorem Stay.set {own : Nat → Nat} {T : Nat → Prop} {W : World} {p : Addr} {u : Value} (h : T (own p.block)) : Stay own own T W (W.setCell p u) := ⟨fun k _ hT => Below.heap_setCell W p u k (fun e => hT (by rw [e]; exact h)), fun _ _ => rfl⟩
theorem Stay.trans {own own' own'' : Nat → Nat} {T : Nat → Prop} {W W1 W2 : World} (h : Stay own own' T W W1) (hs : W.heap.size ≤ W1.heap.size) (k : Stay own' own'' T W1 W2) : Stay own own'' T W W2 :=
  ⟨fun j hj hT => (k.heap j (by omega) (by rw [h.own j hj]; exact hT)).trans (h.heap j hj hT), fun j hj => (k.own j (by omega)).trans (h.own j hj)⟩
section
variable {own own' : Nat → Nat} {T : Nat → Prop} {W W1 : World} {base tag e go n c : Nat} {v : Value} {xs : List Int}
theorem Rw.stay (h : Rw own tag e W base v xs) (s : Stay own own' T W W1) (hT : ¬ T tag) : Rw own' tag e W1 base v xs :=
  Kd.R_mono (Kd.R_move (Kd.R_bound h) (fun k hk => s.heap k hk.2.2.1 (by rw [hk.1]; exact hT))) (fun k hk => (s.own k hk.2.2.1).trans hk.1)
theorem Bx.stay {t g : Nat} {cs : Array Value} (h : Bx own tag t W base g cs) (s : Stay own own' T W W1) (hT : ¬ T tag) : Bx own' tag t W1 base g cs :=
  ⟨(s.own g (blk_lt h.2.2)).trans h.1, h.2.1, (s.heap g (blk_lt h.2.2) (by rw [h.1]; exact hT)).trans h.2.2⟩
theorem Rw.set (h : Rw own tag e W base (.slice (some ⟨go, 0, none⟩) n c) xs) (i : Int) (x : Int) : Rw own tag e (W.setCell ⟨go, i.toNat, none⟩ (.int .i64 x)) base (.slice (some ⟨go, 0, none⟩) n c) (xs.set i.toNat x) := Kd.R_putn h i x
theorem Rw.block (h : Rw own tag e W base (.slice (some ⟨go, 0, none⟩) n c) xs) : own go = tag := h.1 go rfl
theorem Rw.read {A : Option Addr} (h : Rw own tag e W base (.slice A n c) xs) {i : Nat} (hi : i < xs.length) : ∃ g, A = some ⟨g, 0, none⟩ ∧ W.cell? ⟨g, i, none⟩ = some (.int .i64 xs[i]) := by
  obtain ⟨g, cap, hv, _, _, _, _⟩ := Kd.R_form h (by omega)
  injection hv with hA hn hc
  subst hA hn
  obtain ⟨hx, _⟩ := Kd.R_celln 0 h (i : Int) (by omega) (by omega)
  rw [Int.toNat_natCast] at hx
  refine ⟨g, rfl, hx.trans ?_⟩
  simp [rdOf, hi]
/-- Before an append: what is new is the row's, too. -/
theorem Rw.open_ (h : Rw own tag e W base v xs) : (Kd.int .i64).R e W base (fun k => own k = tag ∨ W.heap.size ≤ k) v xs := Kd.R_mono h (fun _ hk => .inl hk)
def more (own : Nat → Nat) (W : World) (tag : Nat) : Nat → Nat := fun k => if k < W.heap.size then own k else tag
theorem more_old {k : Nat} (h : k < W.heap.size) : more own W tag k = own k := if_pos h
theorem Rw.close (h : (Kd.int .i64).R e W1 base (fun k => own k = tag ∨ W.heap.size ≤ k) v xs) : Rw (more own W tag) tag e W1 base v xs := Kd.R_mono h (fun k hk => by
  unfold more
  by_cases c : k < W.heap.size
  · rw [if_pos c]
    rcases hk with hk | hk
    · exact hk
    · omega
  · rw [if_neg c])
theorem Stay.grown {v : Value} (hg : W.grownBy W1 v.ownBlock) (hv : ∀ k, v.ownBlock = some k → T (own k)) : Stay own (more own W tag) T W W1 :=
  ⟨fun k hk hT => hg.block k hk (fun e => hT (hv k e.symm)), fun k hk => more_old hk⟩
end
/-- A row of rows: its own block is tag 7's, the row j's is tag 10 + j's. -/
def Tr (own : Nat → Nat) (e eo : Nat) (W : World) (base g : Nat) (ts : List (List Int)) : Prop :=
  own g = 7 ∧ base ≤ g ∧ ∃ cells : Array Value, W.heap[g]? = some (.cells cells eo (0, 0)) ∧ cells.size = ts.length ∧ ∀ j x, ts[j]? = some x → ∃ u, cells[j]? = some u ∧ Rw own (10 + j) e W base u x
section
variable {own own' : Nat → Nat} {T : Nat → Prop} {W W1 : World} {base e eo g : Nat} {ts : List (List Int)}
theorem Tr.stay (h : Tr own e eo W base g ts) (s : Stay own own' T W W1) (h7 : ¬ T 7) (h10 : ∀ j, ¬ T (10 + j)) : Tr own' e eo W1 base g ts := by
  obtain ⟨h0, hb, cells, hc, hs, hr⟩ := h
  refine ⟨(s.own g (blk_lt hc)).trans h0, hb, cells, (s.heap g (blk_lt hc) (by rw [h0]; exact h7)).trans hc, hs, fun j x hj => ?_⟩
  obtain ⟨u, hu, hR⟩ := hr j x hj
  exact ⟨u, hu, hR.stay s (h10 j)⟩
theorem Tr.at (h : Tr own e eo W base g ts) {j : Nat} {x : List Int} (hj : ts[j]? = some x) : ∃ A c, W.cell? ⟨g, j, none⟩ = some (.slice A x.length c) ∧ W.frozen? ⟨g, j, none⟩ = false ∧ Rw own (10 + j) e W base (.slice A x.length c) x := by
  obtain ⟨h0, hb, cells, hc, hs, hr⟩ := h
  obtain ⟨u, hu, hR⟩ := hr j x hj
  obtain ⟨A, c, rfl⟩ := Kd.R_slice hR
  exact ⟨A, c, (blk_cell hc j).trans hu, blk_frozen hc j, hR⟩
/-- An append to row j, written back. -/
theorem Tr.push (h : Tr own e eo W base g ts) {j : Nat} {x y : List Int} {u u1 : Value} (hj : ts[j]? = some x) (hu : Rw own (10 + j) e W base u x) (hg : W.grownBy W1 u.ownBlock)
    (h1 : (Kd.int .i64).R e W1 base (fun k => own k = 10 + j ∨ W.heap.size ≤ k) u1 y) : Tr (more own W (10 + j)) e eo (W1.setCell ⟨g, j, none⟩ u1) base g (ts.set j y) := by
  obtain ⟨h0, hb, cells, hc, hs, hr⟩ := h
  have hjl : j < ts.length := (List.getElem?_eq_some_iff.1 hj).1
  have st : Stay own (more own W (10 + j)) (fun t => t = 10 + j) W W1 := Stay.grown hg (fun k hk => hu.1 k hk)
  have hc1 : W1.heap[g]? = some (.cells cells eo (0, 0)) := (st.heap g (blk_lt hc) (by rw [h0]; omega)).trans hc
  have hw : more own W (10 + j) g = 7 := (more_old (blk_lt hc)).trans h0
  refine ⟨hw, hb, cells.setIfInBounds j u1, blk_set hc1 j u1, by simp [hs], fun i z hi => ?_⟩
  have s2 : Stay (more own W (10 + j)) (more own W (10 + j)) (fun t => t = 7) W1 (W1.setCell ⟨g, j, none⟩ u1) := Stay.set hw
  by_cases c : i = j
  · subst c
    rw [List.getElem?_set_self hjl] at hi
    obtain rfl := Option.some.inj hi
    exact ⟨u1, by simp [hs, hjl], (Rw.close h1).stay s2 (by omega)⟩
  · rw [List.getElem?_set_ne (fun h => c h.symm)] at hi
    obtain ⟨u', hu', hR⟩ := hr i z hi
    exact ⟨u', by rw [Array.getElem?_setIfInBounds_ne (fun h => c h.symm)]; exact hu', (hR.stay st (by omega)).stay s2 (by omega)⟩
theorem made_at {z : Value} {m j : Nat} (h : j < m) : (madeCells #[z] m)[j]? = some z := by
  have hs : (madeCells #[z] m).size = m := size_madeCells _ _
  rw [Array.getElem?_eq_getElem (by omega)]
  simp [madeCells, Nat.mod_one]
/-- A row of rows that has just been made. -/
theorem Tr.made {m : Nat} (h0 : own W.heap.size = 7) (hb : base ≤ W.heap.size) : Tr own e eo (W.alloc (.cells (madeCells #[.slice none 0 0] m) eo)) base W.heap.size (List.replicate m []) := by
  refine ⟨h0, hb, _, blk_new W _, by rw [size_madeCells, List.length_replicate], fun j x hj => ?_⟩
  obtain ⟨hjl, hx⟩ := List.getElem?_eq_some_iff.1 hj
  rw [List.length_replicate] at hjl
  simp at hx
  subst hx
  exact ⟨.slice none 0 0, made_at hjl, Kd.R_nil _ _ _ _ _⟩
end
/-- Behind an append to row j its place still holds what it held. -/
theorem Tr.hold {own : Nat → Nat} {W W1 : World} {base e eo g : Nat} {ts : List (List Int)} (h : Tr own e eo W base g ts) {j : Nat} {u : Value} (hc : W.cell? ⟨g, j, none⟩ = some u) (hu : ∀ k, u.ownBlock = some k → own k = 10 + j) (hg : W.grownBy W1 u.ownBlock) : W1.cell? ⟨g, j, none⟩ = some u ∧ W1.frozen? ⟨g, j, none⟩ = false := by
  obtain ⟨h0, hb, cells, hh, hs, hr⟩ := h
  have h1 : W1.heap[g]? = some (.cells cells eo (0, 0)) := (hg.block g (blk_lt hh) (fun e => by have := hu g e.symm; omega)).trans hh
  exact ⟨(blk_cell h1 j).trans ((blk_cell hh j).symm.trans hc), blk_frozen h1 j⟩
/-- Tracks by the node at which they begin. -/
def trAdd (fr : Int → Int) (ts : List (List Int)) (r : Int) : List (List Int) := ts.set (fr r).toNat (ts.getD (fr r).toNat [] ++ [r])
def trAll (fr : Int → Int) (m : Nat) : Nat → List (List Int)
  | 0 => List.replicate m []
  | i + 1 => trAdd fr (trAll fr m i) (i : Int)
theorem trAll_length (fr : Int → Int) (m : Nat) : ∀ i, (trAll fr m i).length = m
  | 0 => List.length_replicate
  | i + 1 => by rw [trAll, trAdd, List.length_set, trAll_length fr m i]
theorem trAll_mem (fr : Int → Int) (m : Nat) : ∀ (i v : Nat) (x : List Int), (trAll fr m i)[v]? = some x → x.length ≤ i ∧ ∀ r ∈ x, 0 ≤ r ∧ r < (i : Int)
  | 0, v, x, h => by
    obtain ⟨_, hx⟩ := List.getElem?_eq_some_iff.1 h
    simp [trAll] at hx
    subst hx
    exact ⟨Nat.le_refl _, fun r hr => by cases hr⟩
  | i + 1, v, x, h => by
    simp only [trAll, trAdd] at h
    by_cases c : v = (fr (i : Int)).toNat
    · subst c
      obtain ⟨hl, hx⟩ := List.getElem?_eq_some_iff.1 h
      rw [List.length_set] at hl
      rw [List.getElem_set_self] at hx
      subst hx
      obtain ⟨h1, h2⟩ := trAll_mem fr m i _ _ (List.getElem?_eq_getElem hl)
      have e : (trAll fr m i).getD (fr (i : Int)).toNat [] = (trAll fr m i)[(fr (i : Int)).toNat] := by rw [List.getD_eq_getElem?_getD, List.getElem?_eq_getElem hl]; rfl
      rw [e]
      refine ⟨by simp; omega, fun r hr => ?_⟩
      rcases List.mem_append.1 hr with hr | hr
      · have := h2 r hr; omega
      · obtain rfl := List.mem_singleton.1 hr; omega
    · rw [List.getElem?_set_ne (fun e => c e.symm)] at h
      obtain ⟨h1, h2⟩ := trAll_mem fr m i v x h
      exact ⟨by omega, fun r hr => by have := h2 r hr; omega⟩
section
variable {P : Program} {ops : Array Oper} {rest : List Oper} {o : Oper} {a : Act} {Q : Exit → Act → World → Prop}
/-- make([]T, n) of one-cell elements: the new block is named. -/
theorem make_event {W : World} (hgd : o.guard = none) {N : Tmp} (hd : o.dst = some N) {t e : TypeId} {x y : Operand} (ho : o.op = .makeSlice t x y) (n : Int) (hx : a.eval x = .int .i64 n) (hy : a.eval y = .int .i64 n)
    (ht : P.underlying t = some (.slice e)) (z : Value) (bytes : Nat) (hinfo : (P.info? e).map (fun i => (i.zero, i.size, i.bytes)) = some (some z, 1, bytes)) (hz : z.cells = #[z]) (hb0 : 0 < bytes) (h0 : 0 ≤ n) (hl : n.toNat * bytes ≤ 281474976710656)
    (h : ∀ g, g = W.heap.size → ∀ w1, w1 = W.alloc (.cells (madeCells #[z] n.toNat) e) → wpList P ops Q rest (a.put o.dst (.slice (some ⟨g, 0, none⟩) n.toNat n.toNat)) w1) : wpList P ops Q (o :: rest) a W := by
  obtain ⟨m, rfl⟩ := Int.eq_ofNat_of_zero_le h0
  simp only [Int.toNat_natCast] at hl h
  obtain ⟨i0, hi, hzz⟩ := Option.map_eq_some_iff.1 hinfo
  simp only [Prod.mk.injEq] at hzz
  obtain ⟨hz0, hz1, hz2⟩ := hzz
  have hm : m ≤ 281474976710656 := Nat.le_trans (Nat.le_mul_of_pos_right _ hb0) hl
  have hr := run_make (P := P) W t e i0 z ht hi hz0 .i64 .i64 (m : Int) (m : Int) (by omega) (by omega)
    (by
      have h3 : ((i0.bytes * m : Nat) : Int) ≤ 281474976710656 := by rw [hz2, Nat.mul_comm]; omega
      rwa [Int.natCast_mul] at h3) (by omega)
  simp only [Int.toNat_natCast] at hr
  rw [hz1, hz, Nat.mul_one] at hr
  refine Kd.event_run hgd ?_ (h _ rfl _ rfl)
  simp [execOp, ho, hx, hy, hr]
end
/-- A search's rows: the net's copy, the room, the answer, the tracks. -/
structure Ph (tn te ti tl : Nat) (own : Nat → Nat) (w0 W : World) (gn : Nat) (cn : Array Value) (vr : Value) (room : List Int) (go m co : Nat) (out : List Int) (gt : Nat) (ts : List (List Int)) : Prop where
  below : Below w0.heap.size w0 W
  net : Bx own 6 tn W w0.heap.size gn cn
  room : Rw own 8 te W w0.heap.size vr room
  out : Rw own 1 ti W w0.heap.size (.slice (some ⟨go, 0, none⟩) m co) out
  tr : Tr own ti tl W w0.heap.size gt ts
section
variable {tn te ti tl : Nat} {own : Nat → Nat} {w0 W W1 : World} {gn : Nat} {cn : Array Value} {vr : Value} {room : List Int} {go m co : Nat} {out : List Int} {gt : Nat} {ts : List (List Int)}
theorem Ph.move (h : Ph tn te ti tl own w0 W gn cn vr room go m co out gt ts) (hb : Below W.heap.size W W1) : Ph tn te ti tl own w0 W1 gn cn vr room go m co out gt ts :=
  have s : Stay own own (fun _ => False) W W1 := Stay.below hb
  ⟨below_step h.below hb, h.net.stay s id, h.room.stay s id, h.out.stay s id, h.tr.stay s id (fun _ => id)⟩
theorem Ph.base (h : Ph tn te ti tl own w0 W gn cn vr room go m co out gt ts) : w0.heap.size ≤ go := Kd.R_base h.out go rfl
theorem Ph.put (h : Ph tn te ti tl own w0 W gn cn vr room go m co out gt ts) (i x : Int) : Ph tn te ti tl own w0 (W.setCell ⟨go, i.toNat, none⟩ (.int .i64 x)) gn cn vr room go m co (out.set i.toNat x) gt ts :=
  have s : Stay own own (fun t => t = 1) W (W.setCell ⟨go, i.toNat, none⟩ (.int .i64 x)) := Stay.set h.out.block
  ⟨below_set h.below h.base, h.net.stay s (by decide), h.room.stay s (by decide), h.out.set i x, h.tr.stay s (by decide) (fun j => by omega)⟩
theorem Ph.push (h : Ph tn te ti tl own w0 W gn cn vr room go m co out gt ts) {j : Nat} {x y : List Int} {u u1 : Value} (hj : ts[j]? = some x) (hu : Rw own (10 + j) ti W w0.heap.size u x) (hg : W.grownBy W1 u.ownBlock)
    (h1 : (Kd.int .i64).R ti W1 w0.heap.size (fun k => own k = 10 + j ∨ W.heap.size ≤ k) u1 y) (hb : Below w0.heap.size w0 W1) : Ph tn te ti tl (more own W (10 + j)) w0 (W1.setCell ⟨gt, j, none⟩ u1) gn cn vr room go m co out gt (ts.set j y) :=
  have s1 : Stay own (more own W (10 + j)) (fun t => t = 10 + j) W W1 := Stay.grown hg (fun k hk => hu.1 k hk)
  have h7 : more own W (10 + j) gt = 7 := (h.tr.push hj hu hg h1).1
  have s2 : Stay (more own W (10 + j)) (more own W (10 + j)) (fun t => t = 7) W1 (W1.setCell ⟨gt, j, none⟩ u1) := Stay.set h7
  ⟨below_set hb h.tr.2.1, (h.net.stay s1 (by omega)).stay s2 (by decide), (h.room.stay s1 (by omega)).stay s2 (by decide), (h.out.stay s1 (by omega)).stay s2 (by decide), h.tr.push hj hu hg h1⟩
end
def own0 (gn gt : Nat) : Nat → Nat := fun k => if k = gn then 6 else if k < gt then 8 else if k = gt then 7 else 1
theorem Ph.start {tn te ti tl : Nat} {w0 W W2 : World} {gn : Nat} {cn : Array Value} {vr : Value} {room : List Int} {go m co : Nat} {out : List Int} (hB : Below w0.heap.size w0 W) (hn : W.heap[gn]? = some (.cells cn tn (0, 0))) (hgn : w0.heap.size ≤ gn) (hr : (Kd.int .i64).R te W w0.heap.size (fun _ => True) vr room) (ht : te ≠ tn)
    (hg : (W.alloc (.cells (madeCells #[.slice none 0 0] m) tl)).grownBy W2 none) (ho : (Kd.int .i64).R ti W2 w0.heap.size (fun k => W.heap.size < k) (.slice (some ⟨go, 0, none⟩) m co) out) (hb2 : Below w0.heap.size w0 W2) :
    Ph tn te ti tl (own0 gn W.heap.size) w0 W2 gn cn vr room go m co out W.heap.size (List.replicate m []) := by
  have hgl : gn < W.heap.size := blk_lt hn
  have hb1 : Below W.heap.size W (W.alloc (.cells (madeCells #[.slice none 0 0] m) tl)) := below_alloc (Below.refl _ _) _
  have s1 : Stay (own0 gn W.heap.size) (own0 gn W.heap.size) (fun _ => False) W (W.alloc (.cells (madeCells #[.slice none 0 0] m) tl)) := Stay.below hb1
  have s2 : Stay (own0 gn W.heap.size) (own0 gn W.heap.size) (fun _ => False) (W.alloc (.cells (madeCells #[.slice none 0 0] m) tl)) W2 := Stay.same (fun k hk _ => hg.block k hk (by simp))
  have e6 : own0 gn W.heap.size gn = 6 := if_pos rfl
  have e7 : own0 gn W.heap.size W.heap.size = 7 := by unfold own0; rw [if_neg (by omega), if_neg (by omega), if_pos rfl]
  refine ⟨hb2, (Bx.stay (tag := 6) ⟨e6, hgn, hn⟩ s1 id).stay s2 id, ?_, Kd.R_mono ho (fun k hk => by unfold own0; rw [if_neg (by omega), if_neg (by omega), if_neg (by omega)]), (Tr.made e7 (below_size hB)).stay s2 id (fun _ => id)⟩
  have h8 : Rw (own0 gn W.heap.size) 8 te W w0.heap.size vr room := Kd.R_mono (Kd.R_bound (Kd.R_types hr hn (by intro q hq; rcases List.mem_cons.1 hq with rfl | hq; exact ht; cases hq))) (fun k hk => by
    have h1 := hk.1.2
    have h2 := hk.2.2.1
    unfold own0
    rw [if_neg h1, if_pos h2])
  exact (h8.stay s1 id).stay s2 id
/-- A search by levels: beside it what is now to be walked from, and what comes next, each in a variable of memory. -/
structure St (tn te ti tl : Nat) (own : Nat → Nat) (w0 W : World) (gn : Nat) (cn : Array Value) (vr : Value) (room : List Int) (go m co : Nat) (out : List Int) (gt : Nat) (ts : List (List Int)) (gw gx a b : Nat) (vw vx : Value) (now next : List Int) : Prop where
  ph : Ph tn te ti tl own w0 W gn cn vr room go m co out gt ts
  bw : Bx own 4 tl W w0.heap.size gw #[vw]
  bx : Bx own 5 tl W w0.heap.size gx #[vx]
  now : Rw own a ti W w0.heap.size vw now
  next : Rw own b ti W w0.heap.size vx next
  ab : a = 2 ∧ b = 3 ∨ a = 3 ∧ b = 2
section
variable {tn te ti tl : Nat} {own : Nat → Nat} {w0 W W1 : World} {gn : Nat} {cn : Array Value} {vr : Value} {room : List Int} {go m co : Nat} {out : List Int} {gt : Nat} {ts : List (List Int)} {gw gx a b : Nat} {vw vx : Value} {now next : List Int}
theorem St.move (h : St tn te ti tl own w0 W gn cn vr room go m co out gt ts gw gx a b vw vx now next) (hb : Below W.heap.size W W1) : St tn te ti tl own w0 W1 gn cn vr room go m co out gt ts gw gx a b vw vx now next :=
  have s : Stay own own (fun _ => False) W W1 := Stay.below hb
  ⟨h.ph.move hb, h.bw.stay s id, h.bx.stay s id, h.now.stay s id, h.next.stay s id, h.ab⟩
def own1 (own : Nat → Nat) (gw gx : Nat) : Nat → Nat := fun k => if k = gw then 4 else if k = gx then 5 else own k
theorem St.start {W2 : World} (h : Ph tn te ti tl own w0 W gn cn vr room go m co out gt ts) (hgw : gw = W.heap.size) (hw : W1.heap[gw]? = some (.cells #[.slice none 0 0] tl (0, 0))) (hb1 : Below W.heap.size W W1) (hgx : gx = W1.heap.size) (hx : W2.heap[gx]? = some (.cells #[.slice none 0 0] tl (0, 0))) (hb2 : Below W1.heap.size W1 W2) :
    St tn te ti tl (own1 own gw gx) w0 W2 gn cn vr room go m co out gt ts gw gx 2 3 (.slice none 0 0) (.slice none 0 0) [] [] := by
  have h1 : gw < W1.heap.size := blk_lt hw
  have h0 := below_size h.below
  have h2 := below_size hb1
  have s1 : Stay own (own1 own gw gx) (fun _ => False) W W1 := ⟨fun k hk _ => hb1.block k hk, fun k hk => by unfold own1; rw [if_neg (by omega), if_neg (by omega)]⟩
  have s2 : Stay (own1 own gw gx) (own1 own gw gx) (fun _ => False) W1 W2 := Stay.below hb2
  exact ⟨⟨below_step (below_step h.below hb1) hb2, (h.net.stay s1 id).stay s2 id, (h.room.stay s1 id).stay s2 id, (h.out.stay s1 id).stay s2 id, (h.tr.stay s1 id (fun _ => id)).stay s2 id (fun _ => id)⟩,
    Bx.stay (own := own1 own gw gx) (tag := 4) ⟨if_pos rfl, by omega, hw⟩ s2 id, ⟨by unfold own1; rw [if_neg (by omega), if_pos rfl], by omega, hx⟩, Kd.R_nil _ _ _ _ _, Kd.R_nil _ _ _ _ _, .inl ⟨rfl, rfl⟩⟩
theorem St.put (h : St tn te ti tl own w0 W gn cn vr room go m co out gt ts gw gx a b vw vx now next) (i x : Int) : St tn te ti tl own w0 (W.setCell ⟨go, i.toNat, none⟩ (.int .i64 x)) gn cn vr room go m co (out.set i.toNat x) gt ts gw gx a b vw vx now next :=
  have s : Stay own own (fun t => t = 1) W (W.setCell ⟨go, i.toNat, none⟩ (.int .i64 x)) := Stay.set h.ph.out.block
  have e := h.ab
  ⟨h.ph.put i x, h.bw.stay s (by decide), h.bx.stay s (by decide), h.now.stay s (by omega), h.next.stay s (by omega), h.ab⟩
theorem St.push (h : St tn te ti tl own w0 W gn cn vr room go m co out gt ts gw gx a b vw vx now next) {y : List Int} {u1 : Value} (hg : W.grownBy W1 vx.ownBlock)
    (h1 : (Kd.int .i64).R ti W1 w0.heap.size (fun k => own k = b ∨ W.heap.size ≤ k) u1 y) (hb : Below w0.heap.size w0 W1) : St tn te ti tl (more own W b) w0 (W1.setCell ⟨gx, 0, none⟩ u1) gn cn vr room go m co out gt ts gw gx a b vw u1 now y :=
  have e := h.ab
  have s1 : Stay own (more own W b) (fun t => t = b) W W1 := Stay.grown hg (fun k hk => h.next.1 k hk)
  have h5 : more own W b gx = 5 := (more_old (blk_lt h.bx.2.2)).trans h.bx.1
  have s2 : Stay (more own W b) (more own W b) (fun t => t = 5) W1 (W1.setCell ⟨gx, 0, none⟩ u1) := Stay.set h5
  ⟨⟨below_set hb h.bx.2.1, (h.ph.net.stay s1 (by omega)).stay s2 (by decide), (h.ph.room.stay s1 (by omega)).stay s2 (by decide), (h.ph.out.stay s1 (by omega)).stay s2 (by decide), (h.ph.tr.stay s1 (by omega) (fun j => by omega)).stay s2 (by decide) (fun j => by omega)⟩,
   (h.bw.stay s1 (by omega)).stay s2 (by decide), ⟨h5, h.bx.2.1, blk_put (h.bx.stay s1 (by omega)).2.2 0 u1 rfl⟩, (h.now.stay s1 (by omega)).stay s2 (by omega), (Rw.close h1).stay s2 (by omega), h.ab⟩
theorem St.holdx (h : St tn te ti tl own w0 W gn cn vr room go m co out gt ts gw gx a b vw vx now next) (hg : W.grownBy W1 vx.ownBlock) : W1.cell? ⟨gx, 0, none⟩ = some vx ∧ W1.frozen? ⟨gx, 0, none⟩ = false := by
  have e := h.ab
  have hb := h.bx.stay (Stay.grown (tag := b) (T := fun t => t = b) hg (fun k hk => h.next.1 k hk)) (by omega)
  exact ⟨(blk_cell hb.2.2 0).trans rfl, blk_frozen hb.2.2 0⟩
theorem St.turn {A : Option Addr} {n c : Nat} (h : St tn te ti tl own w0 W gn cn vr room go m co out gt ts gw gx a b (.slice A n c) vx now next) : St tn te ti tl own w0 ((W.setCell ⟨gw, 0, none⟩ vx).setCell ⟨gx, 0, none⟩ (.slice A 0 c)) gn cn vr room go m co out gt ts gw gx b a vx (.slice A 0 c) next [] :=
  have e := h.ab
  have s1 : Stay own own (fun t => t = 4) W (W.setCell ⟨gw, 0, none⟩ vx) := Stay.set h.bw.1
  have s2 : Stay own own (fun t => t = 5) (W.setCell ⟨gw, 0, none⟩ vx) ((W.setCell ⟨gw, 0, none⟩ vx).setCell ⟨gx, 0, none⟩ (.slice A 0 c)) := Stay.set h.bx.1
  ⟨⟨below_set (below_set h.ph.below h.bw.2.1) h.bx.2.1, (h.ph.net.stay s1 (by decide)).stay s2 (by decide), (h.ph.room.stay s1 (by decide)).stay s2 (by decide), (h.ph.out.stay s1 (by decide)).stay s2 (by decide), (h.ph.tr.stay s1 (by decide) (fun j => by omega)).stay s2 (by decide) (fun j => by omega)⟩,
   ⟨h.bw.1, h.bw.2.1, (Bx.stay (tag := 4) ⟨h.bw.1, h.bw.2.1, blk_put h.bw.2.2 0 vx rfl⟩ s2 (by decide)).2.2⟩, ⟨h.bx.1, h.bx.2.1, blk_put (h.bx.stay s1 (by decide)).2.2 0 _ rfl⟩, (h.next.stay s1 (by omega)).stay s2 (by omega), (Rw.stay (show Rw own a ti W w0.heap.size (.slice A 0 c) [] from Kd.R_take h.now (Nat.zero_le _)) s1 (by omega)).stay s2 (by omega), by omega⟩
end
end Go.Proofs.YtcnmbgijehnchaaW.Mine
