/- A walker over tracks, behind a pointer: what it holds, told by a ghost of owners (written by hand). -/
import Derived.Test.YtdiaedecnfbgdaaWMine2
set_option linter.unusedVariables false
namespace Go.Proofs.YtdiaedecnfbgdaaW.Mine
open Go.RowKit Go.Proofs.YtdiaedecnfbgdaaW.PrintWords
/-- The walker: its own block, the room, the tracks that are left, the walk. -/
structure Pl (tw te ti tl : Nat) (own : Nat → Nat) (w0 W : World) (gw : Nat) (c0 c1 c2 c3 : Value) (vr : Value) (room : List Int) (least : Int) (gt m : Nat) (ts : List (List Int)) (vw : Value) (walk : List Int) : Prop where
  below : Below w0.heap.size w0 W
  box : Bx own 6 tw W w0.heap.size gw #[c0, c1, c2, c3, vr, .int .i64 least, .slice (some ⟨gt, 0, none⟩) m m, vw]
  room : Rw own 8 te W w0.heap.size vr room
  tv : Tv own tl W w0.heap.size gt ts
  walk : Rw own 2 ti W w0.heap.size vw walk
/-- What a step of the walker may turn. -/
def PlT (t : Nat) : Prop := t = 2 ∨ t = 6 ∨ t = 7 ∨ t = 8
theorem Stay.weak {own own' : Nat → Nat} {T T' : Nat → Prop} {W W1 : World} (h : Stay own own' T W W1) (k : ∀ t, T t → T' t) : Stay own own' T' W W1 := ⟨fun j hj hT => h.heap j hj (fun e => hT (k _ e)), h.own⟩
section
variable {tw te ti tl : Nat} {own own' : Nat → Nat} {T : Nat → Prop} {w0 W W1 : World} {gw : Nat} {c0 c1 c2 c3 : Value} {vr : Value} {room : List Int} {least : Int} {gt m : Nat} {ts : List (List Int)} {vw : Value} {walk : List Int}
theorem Pl.move (h : Pl tw te ti tl own w0 W gw c0 c1 c2 c3 vr room least gt m ts vw walk) (hb : Below W.heap.size W W1) : Pl tw te ti tl own w0 W1 gw c0 c1 c2 c3 vr room least gt m ts vw walk :=
  have s : Stay own own (fun _ => False) W W1 := Stay.below hb
  ⟨below_step h.below hb, h.box.stay s id, h.room.stay s id, h.tv.stay s id (fun _ => id), h.walk.stay s id⟩
theorem Pl.g0 (h : Pl tw te ti tl own w0 W gw c0 c1 c2 c3 vr room least gt m ts vw walk) : W.cell? ⟨gw, 0, none⟩ = some c0 := (blk_cell h.box.2.2 0).trans rfl
theorem Pl.g1 (h : Pl tw te ti tl own w0 W gw c0 c1 c2 c3 vr room least gt m ts vw walk) : W.cell? ⟨gw, 1, none⟩ = some c1 := (blk_cell h.box.2.2 1).trans rfl
theorem Pl.g2 (h : Pl tw te ti tl own w0 W gw c0 c1 c2 c3 vr room least gt m ts vw walk) : W.cell? ⟨gw, 2, none⟩ = some c2 := (blk_cell h.box.2.2 2).trans rfl
theorem Pl.g3 (h : Pl tw te ti tl own w0 W gw c0 c1 c2 c3 vr room least gt m ts vw walk) : W.cell? ⟨gw, 3, none⟩ = some c3 := (blk_cell h.box.2.2 3).trans rfl
theorem Pl.g4 (h : Pl tw te ti tl own w0 W gw c0 c1 c2 c3 vr room least gt m ts vw walk) : W.cell? ⟨gw, 4, none⟩ = some vr := (blk_cell h.box.2.2 4).trans rfl
theorem Pl.g5 (h : Pl tw te ti tl own w0 W gw c0 c1 c2 c3 vr room least gt m ts vw walk) : W.cell? ⟨gw, 5, none⟩ = some (.int .i64 least) := (blk_cell h.box.2.2 5).trans rfl
theorem Pl.g6 (h : Pl tw te ti tl own w0 W gw c0 c1 c2 c3 vr room least gt m ts vw walk) : W.cell? ⟨gw, 6, none⟩ = some (.slice (some ⟨gt, 0, none⟩) m m) := (blk_cell h.box.2.2 6).trans rfl
theorem Pl.g7 (h : Pl tw te ti tl own w0 W gw c0 c1 c2 c3 vr room least gt m ts vw walk) : W.cell? ⟨gw, 7, none⟩ = some vw := (blk_cell h.box.2.2 7).trans rfl
theorem Pl.f7 (h : Pl tw te ti tl own w0 W gw c0 c1 c2 c3 vr room least gt m ts vw walk) : W.frozen? ⟨gw, 7, none⟩ = false := blk_frozen h.box.2.2 7
theorem Stay.go {own'' : Nat → Nat} {w : World} (h : Stay own own' T w W ∧ w.heap.size ≤ W.heap.size) (s : Stay own' own'' T W W1) (hs : W.heap.size ≤ W1.heap.size) : Stay own own'' T w W1 ∧ w.heap.size ≤ W1.heap.size := ⟨h.1.trans h.2 s, by omega⟩
theorem set_size (p : Addr) (u : Value) : W.heap.size ≤ (W.setCell p u).heap.size := by simp
/-- Behind an append to the walk its place still holds what it held. -/
theorem Pl.hold (h : Pl tw te ti tl own w0 W gw c0 c1 c2 c3 vr room least gt m ts vw walk) (hg : W.grownBy W1 vw.ownBlock) : W1.cell? ⟨gw, 7, none⟩ = some vw ∧ W1.frozen? ⟨gw, 7, none⟩ = false := by
  have s1 : Stay own (more own W 2) (fun t => t = 2) W W1 := Stay.grown hg (fun q hq => h.walk.1 q hq)
  have hx := h.box.stay s1 (by decide)
  exact ⟨(blk_cell hx.2.2 7).trans rfl, blk_frozen hx.2.2 7⟩
/-- The first track of a row is dropped. -/
theorem Pl.pop (h : Pl tw te ti tl own w0 W gw c0 c1 c2 c3 vr room least gt m ts vw walk) {j k c : Nat} {A : Option Addr} {x : List Int} (hj : ts[j]? = some x) (hk : k ≤ x.length) (hl : x.length ≤ c) (hv : Vw own (10 + j) W A x) :
    Pl tw te ti tl own w0 (W.setCell ⟨gt, j, none⟩ (.slice (if c = k then A else A.map (·.add k)) (x.length - k) (c - k))) gw c0 c1 c2 c3 vr room least gt m (ts.set j (x.drop k)) vw walk ∧ Stay own own PlT W (W.setCell ⟨gt, j, none⟩ (.slice (if c = k then A else A.map (·.add k)) (x.length - k) (c - k))) := by
  have hv2 := hv.cut hk hl
  have hp := h.tv.put (c := c - k) hj (by rw [List.length_drop]; omega) hv2
  rw [List.length_drop] at hp
  have s2 : Stay own own (fun t => t = 7) W (W.setCell ⟨gt, j, none⟩ (.slice (if c = k then A else A.map (·.add k)) (x.length - k) (c - k))) := Stay.set h.tv.1
  exact ⟨⟨below_set h.below h.tv.2.1, h.box.stay s2 (by decide), h.room.stay s2 (by decide), hp, h.walk.stay s2 (by decide)⟩, s2.weak (fun t e => .inr (.inr (.inl e)))⟩
/-- The walk grown by a track, and written back. -/
theorem Pl.grow (h : Pl tw te ti tl own w0 W gw c0 c1 c2 c3 vr room least gt m ts vw walk) {u : Value} {y : List Int} (hg : W.grownBy W1 vw.ownBlock) (h1 : (Kd.int .i64).R ti W1 w0.heap.size (fun k => own k = 2 ∨ W.heap.size ≤ k) u y) (hb : Below w0.heap.size w0 W1) :
    Pl tw te ti tl (more own W 2) w0 (W1.setCell ⟨gw, 7, none⟩ u) gw c0 c1 c2 c3 vr room least gt m ts u y ∧ Stay own (more own W 2) PlT W (W1.setCell ⟨gw, 7, none⟩ u) := by
  have s1 : Stay own (more own W 2) (fun t => t = 2) W W1 := Stay.grown hg (fun q hq => h.walk.1 q hq)
  have hx := h.box.stay s1 (by decide)
  have s2 : Stay (more own W 2) (more own W 2) (fun t => t = 6) W1 (W1.setCell ⟨gw, 7, none⟩ u) := Stay.set hx.1
  exact ⟨⟨below_set hb h.box.2.1, ⟨hx.1, hx.2.1, blk_put hx.2.2 7 u rfl⟩, (h.room.stay s1 (by decide)).stay s2 (by decide), (h.tv.stay s1 (by decide) (fun j => by omega)).stay s2 (by decide) (fun j => by omega), (Rw.close h1).stay s2 (by decide)⟩,
    (s1.weak (fun t e => .inl e)).trans hg.size (s2.weak (fun t e => .inr (.inl e)))⟩
/-- The walk made shorter. -/
theorem Pl.back {A : Option Addr} {n c : Nat} (h : Pl tw te ti tl own w0 W gw c0 c1 c2 c3 vr room least gt m ts (.slice A n c) walk) {k : Nat} (hk : k ≤ walk.length) :
    Pl tw te ti tl own w0 (W.setCell ⟨gw, 7, none⟩ (.slice A k c)) gw c0 c1 c2 c3 vr room least gt m ts (.slice A k c) (walk.take k) ∧ Stay own own PlT W (W.setCell ⟨gw, 7, none⟩ (.slice A k c)) := by
  have s2 : Stay own own (fun t => t = 6) W (W.setCell ⟨gw, 7, none⟩ (.slice A k c)) := Stay.set h.box.1
  exact ⟨⟨below_set h.below h.box.2.1, ⟨h.box.1, h.box.2.1, blk_put h.box.2.2 7 _ rfl⟩, h.room.stay s2 (by decide), h.tv.stay s2 (by decide) (fun j => by omega), Rw.stay (Kd.R_take h.walk hk) s2 (by decide)⟩, s2.weak (fun t e => .inr (.inl e))⟩
/-- Room written. -/
theorem Pl.put {gr n c : Nat} (h : Pl tw te ti tl own w0 W gw c0 c1 c2 c3 (.slice (some ⟨gr, 0, none⟩) n c) room least gt m ts vw walk) (i x : Int) :
    Pl tw te ti tl own w0 (W.setCell ⟨gr, i.toNat, none⟩ (.int .i64 x)) gw c0 c1 c2 c3 (.slice (some ⟨gr, 0, none⟩) n c) (room.set i.toNat x) least gt m ts vw walk ∧ Stay own own PlT W (W.setCell ⟨gr, i.toNat, none⟩ (.int .i64 x)) := by
  have s2 : Stay own own (fun t => t = 8) W (W.setCell ⟨gr, i.toNat, none⟩ (.int .i64 x)) := Stay.set h.room.block
  exact ⟨⟨below_set h.below (Kd.R_base h.room gr rfl), h.box.stay s2 (by decide), h.room.set i x, h.tv.stay s2 (by decide) (fun j => by omega), h.walk.stay s2 (by decide)⟩, s2.weak (fun t e => .inr (.inr (.inr e)))⟩
end
end Go.Proofs.YtdiaedecnfbgdaaW.Mine
