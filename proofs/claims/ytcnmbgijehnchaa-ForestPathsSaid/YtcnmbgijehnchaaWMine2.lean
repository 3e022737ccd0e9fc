/- Rows of rows whose parts may be cuts, for a search that goes on where it stopped (written by hand). -/
import Derived.Test.YtcnmbgijehnchaaWMine
import Derived.Test.YtcnmbgijehnchaaWShare
import Derived.Test.YtcnmbgijehnchaaWMore
import Derived.WalkMore
set_option linter.unusedVariables false
namespace Go.Proofs.YtcnmbgijehnchaaW.Mine
open Go.RowKit Go.Proofs.YtcnmbgijehnchaaW.PrintWords
section
variable {own own' : Nat → Nat} {T : Nat → Prop} {W W1 : World} {base tag e eo g n c : Nat} {A : Option Addr} {x : List Int}
/-- A row that is read, in a block that 'own' gives to 'tag'. -/
def Vw (own : Nat → Nat) (tag : Nat) (W : World) (A : Option Addr) (x : List Int) : Prop := Kd.F (Kd.int .i64) W (fun k => own k = tag) A x.length x
theorem Vw.stay (h : Vw own tag W A x) (s : Stay own own' T W W1) (hT : ¬ T tag) : Vw own' tag W1 A x :=
  Kd.F_mono (Kd.F_step (Kd.F_bound h) (fun k hk hl => s.heap k hk.2 (by rw [hk.1]; exact hT)) |> Kd.F_bound |> fun h2 => Kd.F_mono h2 (fun k hk => hk.1)) (fun k hk => (s.own k hk.2).trans hk.1)
theorem Rw.vw (h : Rw own tag e W base (.slice A n c) x) : Vw own tag W A x := by
  have h1 := (Kd.R_reads' h).1
  have h2 := Kd.R_F h
  rw [h1] at h2
  exact h2
theorem Vw.cut (h : Vw own tag W A x) {m : Nat} (hm : m ≤ x.length) (hc : x.length ≤ c) : Vw own tag W (if c = m then A else A.map (·.add m)) (x.drop m) := by
  have h1 := Kd.F_cut (m := m) h hm hc
  have e : (Kd.int .i64).sz = 1 := rfl
  rw [e, Nat.mul_one] at h1
  exact h1
theorem Vw.read (h : Vw own tag W A x) {i : Nat} (hi : i < x.length) : ∃ ad, A = some ad ∧ W.cell? (ad.add i) = some (.int .i64 x[i]) := by
  obtain ⟨ad, hA, hx⟩ := Kd.at_int (Kd.F_now h) (i : Int) (by omega) (by omega)
  rw [Int.toNat_natCast] at hx
  refine ⟨ad, hA, hx.trans ?_⟩
  simp [rd, hi]
end
/-- A row of rows that are read: its own block is tag 7's, the row j's is tag 10 + j's. -/
def Tv (own : Nat → Nat) (eo : Nat) (W : World) (base g : Nat) (ts : List (List Int)) : Prop :=
  own g = 7 ∧ base ≤ g ∧ ∃ cells : Array Value, W.heap[g]? = some (.cells cells eo (0, 0)) ∧ cells.size = ts.length ∧ ∀ j x, ts[j]? = some x → ∃ A c, cells[j]? = some (.slice A x.length c) ∧ x.length ≤ c ∧ Vw own (10 + j) W A x
section
variable {own own' : Nat → Nat} {T : Nat → Prop} {W W1 : World} {base e eo g : Nat} {ts : List (List Int)}
theorem Tr.tv (h : Tr own e eo W base g ts) : Tv own eo W base g ts := by
  obtain ⟨h0, hb, cells, hc, hs, hr⟩ := h
  refine ⟨h0, hb, cells, hc, hs, fun j x hj => ?_⟩
  obtain ⟨u, hu, hR⟩ := hr j x hj
  obtain ⟨A, c, rfl⟩ := Kd.R_slice hR
  exact ⟨A, c, hu, (Kd.R_reads' hR).2.1, hR.vw⟩
theorem Tv.stay (h : Tv own eo W base g ts) (s : Stay own own' T W W1) (h7 : ¬ T 7) (h10 : ∀ j, ¬ T (10 + j)) : Tv own' eo W1 base g ts := by
  obtain ⟨h0, hb, cells, hc, hs, hr⟩ := h
  refine ⟨(s.own g (blk_lt hc)).trans h0, hb, cells, (s.heap g (blk_lt hc) (by rw [h0]; exact h7)).trans hc, hs, fun j x hj => ?_⟩
  obtain ⟨A, c, hu, hl, hR⟩ := hr j x hj
  exact ⟨A, c, hu, hl, hR.stay s (h10 j)⟩
theorem Tv.at (h : Tv own eo W base g ts) {j : Nat} {x : List Int} (hj : ts[j]? = some x) : ∃ A c, W.cell? ⟨g, j, none⟩ = some (.slice A x.length c) ∧ W.frozen? ⟨g, j, none⟩ = false ∧ x.length ≤ c ∧ Vw own (10 + j) W A x := by
  obtain ⟨h0, hb, cells, hc, hs, hr⟩ := h
  obtain ⟨A, c, hu, hl, hR⟩ := hr j x hj
  exact ⟨A, c, (blk_cell hc j).trans hu, blk_frozen hc j, hl, hR⟩
theorem Tv.hold (h : Tv own eo W base g ts) {j : Nat} {u : Value} (hh : W1.heap[g]? = W.heap[g]?) (hc : W.cell? ⟨g, j, none⟩ = some u) : W1.cell? ⟨g, j, none⟩ = some u ∧ W1.frozen? ⟨g, j, none⟩ = false := by
  obtain ⟨h0, hb, cells, hx, hs, hr⟩ := h
  have h1 := hh.trans hx
  exact ⟨(blk_cell h1 j).trans ((blk_cell hx j).symm.trans hc), blk_frozen h1 j⟩
/-- Row j made another one that is read. -/
theorem Tv.put (h : Tv own eo W base g ts) {j : Nat} {x y : List Int} {A : Option Addr} {c : Nat} (hj : ts[j]? = some x) (hl : y.length ≤ c) (hv : Vw own (10 + j) W A y) : Tv own eo (W.setCell ⟨g, j, none⟩ (.slice A y.length c)) base g (ts.set j y) := by
  obtain ⟨h0, hb, cells, hc, hs, hr⟩ := h
  have hjl : j < ts.length := (List.getElem?_eq_some_iff.1 hj).1
  have s2 : Stay own own (fun t => t = 7) W (W.setCell ⟨g, j, none⟩ (.slice A y.length c)) := Stay.set h0
  refine ⟨h0, hb, cells.setIfInBounds j (.slice A y.length c), blk_set hc j _, by simp [hs], fun i z hi => ?_⟩
  by_cases ci : i = j
  · subst ci
    rw [List.getElem?_set_self hjl] at hi
    obtain rfl := Option.some.inj hi
    exact ⟨A, c, by simp [hs, hjl], hl, hv.stay s2 (by omega)⟩
  · rw [List.getElem?_set_ne (fun h => ci h.symm)] at hi
    obtain ⟨A', c', hu', hl', hR⟩ := hr i z hi
    exact ⟨A', c', by rw [Array.getElem?_setIfInBounds_ne (fun h => ci h.symm)]; exact hu', hl', hR.stay s2 (by omega)⟩
end
/-- While the tracks are told apart. -/
structure Pk (tn te ti tl : Nat) (own : Nat → Nat) (w0 W : World) (gn : Nat) (cn : Array Value) (vr : Value) (room : List Int) (gt : Nat) (ts : List (List Int)) : Prop where
  below : Below w0.heap.size w0 W
  net : Bx own 6 tn W w0.heap.size gn cn
  room : Rw own 8 te W w0.heap.size vr room
  tr : Tr own ti tl W w0.heap.size gt ts
/-- The search itself. -/
structure Rc (tn te ti tl tb : Nat) (own : Nat → Nat) (w0 W : World) (gn : Nat) (cn : Array Value) (vr : Value) (room : List Int) (gt : Nat) (ts : List (List Int)) (gm m cm : Nat) (met : List Bool) (vw : Value) (wait : List Int) : Prop where
  below : Below w0.heap.size w0 W
  net : Bx own 6 tn W w0.heap.size gn cn
  room : Rw own 8 te W w0.heap.size vr room
  tv : Tv own tl W w0.heap.size gt ts
  met : Kd.bool.R tb W w0.heap.size (fun k => own k = 1) (.slice (some ⟨gm, 0, none⟩) m cm) met
  wait : Rw own 2 ti W w0.heap.size vw wait
section
variable {tn te ti tl tb : Nat} {own : Nat → Nat} {w0 W W1 : World} {gn : Nat} {cn : Array Value} {vr : Value} {room : List Int} {gt : Nat} {ts : List (List Int)} {gm m cm : Nat} {met : List Bool} {vw : Value} {wait : List Int}
theorem Pk.move (h : Pk tn te ti tl own w0 W gn cn vr room gt ts) (hb : Below W.heap.size W W1) : Pk tn te ti tl own w0 W1 gn cn vr room gt ts :=
  have s : Stay own own (fun _ => False) W W1 := Stay.below hb
  ⟨below_step h.below hb, h.net.stay s id, h.room.stay s id, h.tr.stay s id (fun _ => id)⟩
theorem Pk.push (h : Pk tn te ti tl own w0 W gn cn vr room gt ts) {j : Nat} {x y : List Int} {u u1 : Value} (hj : ts[j]? = some x) (hu : Rw own (10 + j) ti W w0.heap.size u x) (hg : W.grownBy W1 u.ownBlock)
    (h1 : (Kd.int .i64).R ti W1 w0.heap.size (fun k => own k = 10 + j ∨ W.heap.size ≤ k) u1 y) (hb : Below w0.heap.size w0 W1) : Pk tn te ti tl (more own W (10 + j)) w0 (W1.setCell ⟨gt, j, none⟩ u1) gn cn vr room gt (ts.set j y) :=
  have s1 : Stay own (more own W (10 + j)) (fun t => t = 10 + j) W W1 := Stay.grown hg (fun k hk => hu.1 k hk)
  have h7 : more own W (10 + j) gt = 7 := (h.tr.push hj hu hg h1).1
  have s2 : Stay (more own W (10 + j)) (more own W (10 + j)) (fun t => t = 7) W1 (W1.setCell ⟨gt, j, none⟩ u1) := Stay.set h7
  ⟨below_set hb h.tr.2.1, (h.net.stay s1 (by omega)).stay s2 (by decide), (h.room.stay s1 (by omega)).stay s2 (by decide), h.tr.push hj hu hg h1⟩
theorem Pk.start (hB : Below w0.heap.size w0 W) (hn : W.heap[gn]? = some (.cells cn tn (0, 0))) (hgn : w0.heap.size ≤ gn) (hr : (Kd.int .i64).R te W w0.heap.size (fun _ => True) vr room) (ht : te ≠ tn) :
    Pk tn te ti tl (own0 gn W.heap.size) w0 (W.alloc (.cells (madeCells #[.slice none 0 0] m) tl)) gn cn vr room W.heap.size (List.replicate m []) := by
  have hgl : gn < W.heap.size := blk_lt hn
  have hb1 : Below W.heap.size W (W.alloc (.cells (madeCells #[.slice none 0 0] m) tl)) := below_alloc (Below.refl _ _) _
  have s1 : Stay (own0 gn W.heap.size) (own0 gn W.heap.size) (fun _ => False) W (W.alloc (.cells (madeCells #[.slice none 0 0] m) tl)) := Stay.below hb1
  have e6 : own0 gn W.heap.size gn = 6 := if_pos rfl
  have e7 : own0 gn W.heap.size W.heap.size = 7 := by unfold own0; rw [if_neg (by omega), if_neg (by omega), if_pos rfl]
  refine ⟨below_step hB hb1, Bx.stay (tag := 6) ⟨e6, hgn, hn⟩ s1 id, ?_, Tr.made e7 (below_size hB)⟩
  have h8 : Rw (own0 gn W.heap.size) 8 te W w0.heap.size vr room := Kd.R_mono (Kd.R_bound (Kd.R_types hr hn (by intro q hq; rcases List.mem_cons.1 hq with rfl | hq; exact ht; cases hq))) (fun k hk => by
    have h1 := hk.1.2
    have h2 := hk.2.2.1
    unfold own0
    rw [if_neg h1, if_pos h2])
  exact h8.stay s1 id
/-- One more thing made: the rows that were there stay, and what is new is another owner's. -/
theorem Stay.fresh {tag : Nat} {T : Nat → Prop} (hg : W.grownBy W1 none) : Stay own (more own W tag) T W W1 := ⟨fun k hk _ => hg.block k hk (by simp), fun k hk => more_old hk⟩
theorem Rc.start {W2 : World} (h : Pk tn te ti tl own w0 W gn cn vr room gt ts) (hg1 : W.grownBy W1 none) (hm : Kd.bool.R tb W1 w0.heap.size (fun k => W.heap.size ≤ k) (.slice (some ⟨gm, 0, none⟩) m cm) met) (hi : Nat) (x : Bool)
    (hb2 : Below w0.heap.size w0 W2) (hg2 : (W1.setCell ⟨gm, hi, none⟩ (.bool x)).grownBy W2 none) (hw : (Kd.int .i64).R ti W2 w0.heap.size (fun k => W1.heap.size ≤ k) vw wait) :
    Rc tn te ti tl tb (more (more own W 1) W1 2) w0 W2 gn cn vr room gt ts gm m cm (met.set hi x) vw wait := by
  have s1 : Stay own (more own W 1) (fun _ => False) W W1 := Stay.fresh hg1
  have hm1 : Kd.bool.R tb W1 w0.heap.size (fun k => more own W 1 k = 1) (.slice (some ⟨gm, 0, none⟩) m cm) met := Kd.R_mono hm (fun k hk => by unfold more; rw [if_neg (by omega)])
  have h1 : more own W 1 gm = 1 := hm1.1 gm rfl
  have s2 : Stay (more own W 1) (more own W 1) (fun t => t = 1) W1 (W1.setCell ⟨gm, hi, none⟩ (.bool x)) := Stay.set h1
  have hsz : (W1.setCell ⟨gm, hi, none⟩ (.bool x)).heap.size = W1.heap.size := by simp
  have s3 : Stay (more own W 1) (more (more own W 1) W1 2) (fun _ => False) (W1.setCell ⟨gm, hi, none⟩ (.bool x)) W2 := ⟨fun k hk _ => hg2.block k hk (by simp), fun k hk => more_old (by omega)⟩
  have hput := Kd.R_putn hm1 (hi : Int) x
  rw [Int.toNat_natCast] at hput
  refine ⟨hb2, ((h.net.stay s1 id).stay s2 (by decide)).stay s3 id, ((h.room.stay s1 id).stay s2 (by decide)).stay s3 id, (((h.tr.stay s1 id (fun _ => id)).tv).stay s2 (by decide) (fun j => by omega)).stay s3 id (fun _ => id), ?_, ?_⟩
  · exact Kd.R_mono (Kd.R_move (Kd.R_bound hput) (fun k hk => hg2.block k hk.2.2.1 (by simp))) (fun k hk => (s3.own k hk.2.2.1).trans hk.1)
  · exact Kd.R_mono hw (fun k hk => by unfold more; rw [if_neg (by omega)])
theorem Rc.move (h : Rc tn te ti tl tb own w0 W gn cn vr room gt ts gm m cm met vw wait) (hb : Below W.heap.size W W1) : Rc tn te ti tl tb own w0 W1 gn cn vr room gt ts gm m cm met vw wait :=
  have s : Stay own own (fun _ => False) W W1 := Stay.below hb
  ⟨below_step h.below hb, h.net.stay s id, h.room.stay s id, h.tv.stay s id (fun _ => id), Kd.R_below h.met hb, h.wait.stay s id⟩
theorem Rc.put (h : Rc tn te ti tl tb own w0 W gn cn vr room gt ts gm m cm met vw wait) (i : Int) (x : Bool) : Rc tn te ti tl tb own w0 (W.setCell ⟨gm, i.toNat, none⟩ (.bool x)) gn cn vr room gt ts gm m cm (met.set i.toNat x) vw wait :=
  have h1 : own gm = 1 := h.met.1 gm rfl
  have s : Stay own own (fun t => t = 1) W (W.setCell ⟨gm, i.toNat, none⟩ (.bool x)) := Stay.set h1
  ⟨below_set h.below (Kd.R_base h.met gm rfl), h.net.stay s (by decide), h.room.stay s (by decide), h.tv.stay s (by decide) (fun j => by omega), Kd.R_putn h.met i x, h.wait.stay s (by decide)⟩
/-- Behind an append to what waits, and a row of the tracks cut. -/
theorem Rc.push (h : Rc tn te ti tl tb own w0 W gn cn vr room gt ts gm m cm met vw wait) {u : Value} {y : List Int} (hg : W.grownBy W1 vw.ownBlock) (h1 : (Kd.int .i64).R ti W1 w0.heap.size (fun k => own k = 2 ∨ W.heap.size ≤ k) u y) (hb : Below w0.heap.size w0 W1)
    {j k c : Nat} {A : Option Addr} {x : List Int} (hj : ts[j]? = some x) (hk : k ≤ x.length) (hl : x.length ≤ c) (hv : Vw own (10 + j) W A x) :
    Rc tn te ti tl tb (more own W 2) w0 (W1.setCell ⟨gt, j, none⟩ (.slice (if c = k then A else A.map (·.add k)) (x.length - k) (c - k))) gn cn vr room gt (ts.set j (x.drop k)) gm m cm met u y := by
  have s1 : Stay own (more own W 2) (fun t => t = 2) W W1 := Stay.grown hg (fun q hq => h.wait.1 q hq)
  have ht := h.tv.stay s1 (by decide) (fun j => by omega)
  have hv2 := (hv.stay s1 (by omega)).cut hk hl
  have hp := ht.put (c := c - k) hj (by rw [List.length_drop]; omega) hv2
  rw [List.length_drop] at hp
  have s2 : Stay (more own W 2) (more own W 2) (fun t => t = 7) W1 (W1.setCell ⟨gt, j, none⟩ (.slice (if c = k then A else A.map (·.add k)) (x.length - k) (c - k))) := Stay.set ht.1
  have hm : Kd.bool.R tb W1 w0.heap.size (fun k => more own W 2 k = 1) (.slice (some ⟨gm, 0, none⟩) m cm) met := Kd.R_mono (Kd.R_move (Kd.R_bound h.met) (fun q hq => s1.heap q hq.2.2.1 (by rw [hq.1]; decide))) (fun q hq => (s1.own q hq.2.2.1).trans hq.1)
  exact ⟨below_set hb h.tv.2.1, (h.net.stay s1 (by decide)).stay s2 (by decide), (h.room.stay s1 (by decide)).stay s2 (by decide), hp, Kd.R_mono (Kd.R_move (Kd.R_bound hm) (fun q hq => s2.heap q hq.2.2.1 (by rw [hq.1]; decide))) (fun q hq => hq.1), (Rw.close h1).stay s2 (by decide)⟩
/-- What waits made shorter. -/
theorem Rc.take {A : Option Addr} {n c : Nat} (h : Rc tn te ti tl tb own w0 W gn cn vr room gt ts gm m cm met (.slice A n c) wait) {k : Nat} (hk : k ≤ wait.length) : Rc tn te ti tl tb own w0 W gn cn vr room gt ts gm m cm met (.slice A k c) (wait.take k) :=
  ⟨h.below, h.net, h.room, h.tv, h.met, Kd.R_take h.wait hk⟩
end
end Go.Proofs.YtcnmbgijehnchaaW.Mine
