/- Splay trees in a forest of nodes: plain Lean, no program. -/
import Derived.Test.YtcnmbgijehnchaaWMine2
set_option linter.unusedVariables false
set_option linter.unusedSimpArgs false
namespace Go.Proofs.YtcnmbgijehnchaaW.Splay
open Go.RowKit Go.Proofs.YtcnmbgijehnchaaW.PrintWords Go.Proofs.YtcnmbgijehnchaaW.PrintMore
/-- A node as the forest has it. -/
structure Nd where
  up : Int
  d0 : Int
  d1 : Int
  size : Int
  v : Int
  ls : Int
  ms : Int
  a : Int
  tn : Bool
abbrev Fo := Int → Nd
def upd (s : Fo) (x : Int) (n : Nd) : Fo := fun y => if y = x then n else s y
theorem upd_same (s : Fo) (x : Int) (n : Nd) : upd s x n x = n := if_pos rfl
theorem upd_ne {s : Fo} {x y : Int} {n : Nd} (h : y ≠ x) : upd s x n y = s y := if_neg h
def dn (n : Nd) (side : Int) : Int := if side = 0 then n.d0 else n.d1
def setDn (n : Nd) (side y : Int) : Nd := if side = 0 then { n with d0 := y } else { n with d1 := y }
def layNd (n : Nd) (a : Int) (t : Bool) : Nd := ⟨n.up, if t = true then n.d1 else n.d0, if t = true then n.d0 else n.d1, n.size, wrap64 (n.v + a), wrap64 (n.ls + a), wrap64 (n.ms + a), wrap64 (n.a + a), if t = true then !n.tn else n.tn⟩
def lay (s : Fo) (x a : Int) (t : Bool) : Fo := if x = -1 then s else upd s x (layNd (s x) a t)
def push2 (s1 : Fo) (x c1 : Int) : Fo := lay s1 c1 (s1 x).a (s1 x).tn
def push3 (s2 : Fo) (x : Int) : Fo := upd s2 x { s2 x with a := 0, tn := false }
def push (s : Fo) (x : Int) : Fo := push3 (push2 (lay s (s x).d0 (s x).a (s x).tn) x (s x).d1) x
def pull1 (s : Fo) (x c : Int) : Fo := if c = -1 then s else upd s x { s x with size := wrap64 ((s x).size + (s c).size), ls := mn (s x).ls (s c).ls, ms := mx (s x).ms (s c).ms }
def pull0 (s : Fo) (x : Int) : Fo := upd s x { s x with size := 1, ls := (s x).v, ms := (s x).v }
def pull (s : Fo) (x : Int) : Fo := pull1 (pull1 (pull0 s x) x (s x).d0) x (s x).d1
def side (s : Fo) (x : Int) : Int := if (s (s x).up).d1 = x then 1 else 0
def hang (s : Fo) (x below sd : Int) : Fo := if x = -1 then upd s below (setDn (s below) sd x) else upd (upd s below (setDn (s below) sd x)) x { upd s below (setDn (s below) sd x) x with up := below }
def rot1 (s : Fo) (x p sd : Int) : Fo := hang (hang s (dn (s x) (1 - sd)) p sd) p x (1 - sd)
def rot2 (s : Fo) (x g top : Int) : Fo := if g = -1 then upd s x { s x with up := g } else upd (upd s x { s x with up := g }) g (setDn (upd s x { s x with up := g } g) top x)
def rotate (s : Fo) (x : Int) : Fo := pull (pull (rot2 (rot1 s x (s x).up (side s x)) x (s (s x).up).up (if (s (s x).up).up = -1 then 0 else side s (s x).up)) (s x).up) x
theorem wrap_wrap (a b : Int) : wrap64 (wrap64 a + b) = wrap64 (a + b) := by unfold wrap64; omega
/-- A tree: items, what each one has, what is to be laid on what is below it. -/
inductive Tr where
  | nil : Tr
  | nd (x v a : Int) (t : Bool) (l r : Tr) : Tr
def root : Tr → Int
  | .nil => -1
  | .nd x _ _ _ _ _ => x
def items : Tr → List Int
  | .nil => []
  | .nd x _ _ _ l r => x :: (items l ++ items r)
/-- The row of a tree, with its values, if so much is still to be laid on it. -/
def sq : Tr → Int → Bool → List (Int × Int)
  | .nil, _, _ => []
  | .nd x v a t l r, p, u => if u = true then sq r (a + p) (t ^^ u) ++ (x, wrap64 (v + p)) :: sq l (a + p) (t ^^ u) else sq l (a + p) (t ^^ u) ++ (x, wrap64 (v + p)) :: sq r (a + p) (t ^^ u)
/-- What a node tells of its row. -/
def Ag (n : Nd) (p : Int) (L : List (Int × Int)) : Prop :=
  n.size = (L.length : Int) ∧ (wrap64 n.v = n.v ∧ wrap64 n.ls = n.ls ∧ wrap64 n.ms = n.ms) ∧ (∀ y ∈ L, wrap64 (n.ls + p) ≤ y.2 ∧ y.2 ≤ wrap64 (n.ms + p)) ∧ (∃ y ∈ L, y.2 = wrap64 (n.ls + p)) ∧ ∃ y ∈ L, y.2 = wrap64 (n.ms + p)
/-- A tree lies in the forest, below the node u; so much is still to be laid on it. -/
def Rep (s : Fo) : Tr → Int → Int → Prop
  | .nil, _, _ => True
  | .nd x v a t l r, u, p => 0 ≤ x ∧ (s x).up = u ∧ (s x).d0 = root l ∧ (s x).d1 = root r ∧ (s x).v = v ∧ (s x).a = a ∧ (s x).tn = t ∧ Ag (s x) p (sq (.nd x v a t l r) p false) ∧ Rep s l x (a + p) ∧ Rep s r x (a + p)
theorem Rep.frame {s s' : Fo} : ∀ {t : Tr} {u p : Int}, Rep s t u p → (∀ x ∈ items t, s' x = s x) → Rep s' t u p
  | .nil, _, _, _, _ => trivial
  | .nd x v a t l r, u, p, h, hs => by
    obtain ⟨h0, h1, h2, h3, h4, h5, h6, h7, h8, h9⟩ := h
    have e := hs x List.mem_cons_self
    refine ⟨h0, ?_, ?_, ?_, ?_, ?_, ?_, ?_, h8.frame (fun y hy => hs y (List.mem_cons_of_mem _ (List.mem_append_left _ hy))), h9.frame (fun y hy => hs y (List.mem_cons_of_mem _ (List.mem_append_right _ hy)))⟩ <;> rw [e] <;> assumption
theorem sq_congr : ∀ (t : Tr) {p q : Int} (u : Bool), wrap64 p = wrap64 q → sq t p u = sq t q u
  | .nil, _, _, _, _ => rfl
  | .nd x v a t l r, p, q, u, h => by
    have e : wrap64 (a + p) = wrap64 (a + q) := by unfold wrap64 at h ⊢; omega
    have e2 : wrap64 (v + p) = wrap64 (v + q) := by unfold wrap64 at h ⊢; omega
    simp only [sq, e2, sq_congr l _ e, sq_congr r _ e]
theorem Rep.congr {s : Fo} : ∀ {t : Tr} {u p q : Int}, wrap64 p = wrap64 q → Rep s t u p → Rep s t u q
  | .nil, _, _, _, _, _ => trivial
  | .nd x v a t l r, u, p, q, h, hr => by
    obtain ⟨h0, h1, h2, h3, h4, h5, h6, h7, h8, h9⟩ := hr
    have e : wrap64 (a + p) = wrap64 (a + q) := by unfold wrap64 at h ⊢; omega
    refine ⟨h0, h1, h2, h3, h4, h5, h6, ?_, h8.congr e, h9.congr e⟩
    have e1 : wrap64 ((s x).ls + p) = wrap64 ((s x).ls + q) := by unfold wrap64 at h ⊢; omega
    have e2 : wrap64 ((s x).ms + p) = wrap64 ((s x).ms + q) := by unfold wrap64 at h ⊢; omega
    unfold Ag at h7 ⊢
    rw [← e1, ← e2, ← sq_congr (.nd x v a t l r) false h]
    exact h7
/-- A row turned. -/
theorem sq_turn : ∀ (t : Tr) (p : Int) (u : Bool), sq t p (!u) = (sq t p u).reverse
  | .nil, _, _ => rfl
  | .nd x v a t l r, p, u => by
    have hl := sq_turn l (a + p) (t ^^ u)
    have hr := sq_turn r (a + p) (t ^^ u)
    have e : (t ^^ !u) = !(t ^^ u) := by cases t <;> cases u <;> rfl
    cases u <;> simp only [sq, e, hl, hr] <;> simp
theorem sq_items : ∀ (t : Tr) (p : Int) (u : Bool) (x : Int), x ∈ (sq t p u).map Prod.fst ↔ x ∈ items t
  | .nil, _, _, _ => Iff.rfl
  | .nd x v a t l r, p, u, y => by
    have hl := sq_items l (a + p) (t ^^ u) y
    have hr := sq_items r (a + p) (t ^^ u) y
    cases u <;> simp only [sq, items, Bool.false_eq_true, if_false, if_true, List.map_append, List.map_cons, List.mem_append, List.mem_cons, hl, hr] <;> constructor <;> intro h <;> rcases h with h | h | h <;> simp [h]
theorem sq_length (t : Tr) (p q : Int) (u w : Bool) : (sq t p u).length = (sq t q w).length := by
  induction t generalizing p q u w with
  | nil => rfl
  | nd x v a t l r hl hr =>
    have e1 := hl (a + p) (a + q) (t ^^ u) (t ^^ w)
    have e2 := hr (a + p) (a + q) (t ^^ u) (t ^^ w)
    cases u <;> cases w <;> simp only [sq, Bool.false_eq_true, if_false, if_true, List.length_append, List.length_cons] <;> omega
theorem Ag.perm {n : Nd} {p : Int} {L M : List (Int × Int)} (h : Ag n p L) (hl : L.length = M.length) (hm : ∀ y, y ∈ L ↔ y ∈ M) : Ag n p M := by
  obtain ⟨h1, hw, h2, ⟨y, y1, y2⟩, ⟨z, z1, z2⟩⟩ := h
  exact ⟨by rw [h1, hl], hw, fun y hy => h2 y ((hm y).2 hy), ⟨y, (hm y).1 y1, y2⟩, ⟨z, (hm z).1 z1, z2⟩⟩
/-- A tree on which is laid. -/
def layT (a : Int) (u : Bool) : Tr → Tr
  | .nil => .nil
  | .nd x v b t l r => .nd x (wrap64 (v + a)) (wrap64 (b + a)) (if u = true then !t else t) (if u = true then r else l) (if u = true then l else r)
theorem root_layT (a : Int) (u : Bool) : ∀ t, root (layT a u t) = root t
  | .nil => rfl
  | .nd _ _ _ _ _ _ => rfl
theorem items_layT (a : Int) (u : Bool) : ∀ (t : Tr) (x : Int), x ∈ items (layT a u t) ↔ x ∈ items t
  | .nil, _ => Iff.rfl
  | .nd _ _ _ _ _ _, _ => by cases u <;> simp [layT, items, or_comm]
theorem sq_layT (a : Int) (u : Bool) (p : Int) (w : Bool) : ∀ (t : Tr), sq (layT a u t) p w = sq t (a + p) (u ^^ w)
  | .nil => rfl
  | .nd x v b t l r => by
    have e1 : wrap64 (wrap64 (v + a) + p) = wrap64 (v + (a + p)) := by unfold wrap64; omega
    have e2 : wrap64 (wrap64 (b + a) + p) = wrap64 (b + (a + p)) := by unfold wrap64; omega
    cases u <;> cases w <;> simp only [layT, sq, e1, Bool.false_eq_true, if_false, if_true, Bool.xor_false, Bool.xor_true, Bool.false_xor, Bool.true_xor, Bool.not_false, Bool.not_true, Bool.not_not, sq_congr l _ e2, sq_congr r _ e2]

theorem wrap0 {x : Int} (h : wrap64 x = x) : wrap64 (x + 0) = x := by rw [Int.add_zero]; exact h
theorem lay_ne {s : Fo} {a : Int} {u : Bool} : ∀ {t : Tr} {z : Int}, z ∉ items t → lay s (root t) a u z = s z
  | .nil, _, _ => by simp [lay, root]
  | .nd x v b w l r, z, h => by
    unfold lay
    split
    · rfl
    · exact upd_ne (fun e => h (by rw [e]; exact List.mem_cons_self))
theorem wrap_idem (x : Int) : wrap64 (wrap64 x) = wrap64 x := by unfold wrap64; omega
theorem Rep.lay {s : Fo} {a p u : Int} {w : Bool} : ∀ {t : Tr}, Rep s t u (a + p) → (items t).Nodup → Rep (lay s (root t) a w) (layT a w t) u p
  | .nil, _, _ => trivial
  | .nd x v b tt l r, h, hn => by
    obtain ⟨h0, h1, h2, h3, h4, h5, h6, h7, h8, h9⟩ := h
    simp only [items, List.nodup_cons, List.mem_append, not_or] at hn
    obtain ⟨⟨nl, nr⟩, hn⟩ := hn
    have hx : x ≠ -1 := by omega
    have hs : ∀ z, z ≠ x → Go.Proofs.YtcnmbgijehnchaaW.Splay.lay s (root (.nd x v b tt l r)) a w z = s z := fun z hz => by
      show Go.Proofs.YtcnmbgijehnchaaW.Splay.lay s x a w z = s z
      unfold Go.Proofs.YtcnmbgijehnchaaW.Splay.lay
      rw [if_neg hx, upd_ne hz]
    have hsx : Go.Proofs.YtcnmbgijehnchaaW.Splay.lay s (root (.nd x v b tt l r)) a w x = layNd (s x) a w := by
      show Go.Proofs.YtcnmbgijehnchaaW.Splay.lay s x a w x = _
      unfold Go.Proofs.YtcnmbgijehnchaaW.Splay.lay
      rw [if_neg hx, upd_same]
    have e2 : wrap64 (b + (a + p)) = wrap64 (wrap64 (b + a) + p) := by unfold wrap64; omega
    have hl : Rep (Go.Proofs.YtcnmbgijehnchaaW.Splay.lay s (root (.nd x v b tt l r)) a w) l x (wrap64 (b + a) + p) := (h8.frame (fun z hz => hs z (fun e => nl (e ▸ hz)))).congr e2
    have hr : Rep (Go.Proofs.YtcnmbgijehnchaaW.Splay.lay s (root (.nd x v b tt l r)) a w) r x (wrap64 (b + a) + p) := (h9.frame (fun z hz => hs z (fun e => nr (e ▸ hz)))).congr e2
    have hag : Ag (layNd (s x) a w) p (sq (layT a w (.nd x v b tt l r)) p false) := by
      rw [sq_layT]
      have hp : Ag (s x) (a + p) (sq (.nd x v b tt l r) (a + p) (w ^^ false)) := h7.perm (sq_length _ _ _ _ _) (fun y => by
        cases w
        · rfl
        · show y ∈ sq _ _ false ↔ y ∈ sq _ _ (!false)
          rw [sq_turn, List.mem_reverse])
      obtain ⟨g1, g2, g3, g4, g5⟩ := hp
      have e3 : wrap64 (wrap64 ((s x).ls + a) + p) = wrap64 ((s x).ls + (a + p)) := by unfold wrap64; omega
      have e4 : wrap64 (wrap64 ((s x).ms + a) + p) = wrap64 ((s x).ms + (a + p)) := by unfold wrap64; omega
      refine ⟨g1, ⟨wrap_idem _, wrap_idem _, wrap_idem _⟩, ?_, ?_, ?_⟩
      · show ∀ y ∈ (_ : List (Int × Int)), wrap64 (wrap64 ((s x).ls + a) + p) ≤ y.2 ∧ y.2 ≤ wrap64 (wrap64 ((s x).ms + a) + p)
        rw [e3, e4]; exact g3
      · show ∃ y ∈ (_ : List (Int × Int)), y.2 = wrap64 (wrap64 ((s x).ls + a) + p)
        rw [e3]; exact g4
      · show ∃ y ∈ (_ : List (Int × Int)), y.2 = wrap64 (wrap64 ((s x).ms + a) + p)
        rw [e4]; exact g5
    refine ⟨h0, by rw [hsx]; exact h1, ?_, ?_, by rw [hsx, ← h4]; rfl, by rw [hsx, ← h5]; rfl, ?_, by rw [hsx]; exact hag, ?_, ?_⟩
    · rw [hsx]; cases w <;> simp [layNd, h2, h3]
    · rw [hsx]; cases w <;> simp [layNd, h2, h3]
    · rw [hsx]; cases w <;> simp [layNd, h6]
    · cases w
      · exact hl
      · exact hr
    · cases w
      · exact hr
      · exact hl
theorem push_ne {s : Fo} {x v a u p : Int} {t : Bool} {l r : Tr} (h : Rep s (.nd x v a t l r) u p) {z : Int} (hz : z ∉ items (.nd x v a t l r)) : push s x z = s z := by
  obtain ⟨h0, h1, h2, h3, h4, h5, h6, h7, h8, h9⟩ := h
  simp only [items, List.mem_cons, List.mem_append, not_or] at hz
  obtain ⟨z1, z2, z3⟩ := hz
  unfold push push3 push2
  rw [upd_ne z1, h2, h3, lay_ne z3, lay_ne z2]
theorem Rep.push {s : Fo} {x v a u p : Int} {t : Bool} {l r : Tr} (h : Rep s (.nd x v a t l r) u p) (hn : (items (.nd x v a t l r)).Nodup) : Rep (push s x) (.nd x v 0 false (layT a t l) (layT a t r)) u p := by
  obtain ⟨h0, h1, h2, h3, h4, h5, h6, h7, h8, h9⟩ := h
  simp only [items, List.nodup_cons, List.mem_append, not_or] at hn
  obtain ⟨⟨nl, nr⟩, hn⟩ := hn
  obtain ⟨n1, n2, n3⟩ := List.nodup_append.1 hn
  have e1 : Go.Proofs.YtcnmbgijehnchaaW.Splay.lay s (root l) a t x = s x := lay_ne nl
  have e2 : Go.Proofs.YtcnmbgijehnchaaW.Splay.lay (Go.Proofs.YtcnmbgijehnchaaW.Splay.lay s (root l) a t) (root r) a t x = s x := by rw [lay_ne nr, e1]
  have hp : Go.Proofs.YtcnmbgijehnchaaW.Splay.push s x = upd (Go.Proofs.YtcnmbgijehnchaaW.Splay.lay (Go.Proofs.YtcnmbgijehnchaaW.Splay.lay s (root l) a t) (root r) a t) x { s x with a := 0, tn := false } := by
    unfold Go.Proofs.YtcnmbgijehnchaaW.Splay.push push3 push2
    rw [h2, h3, h5, h6, e1, h5, h6, e2]
  have k1 : Rep (Go.Proofs.YtcnmbgijehnchaaW.Splay.lay (Go.Proofs.YtcnmbgijehnchaaW.Splay.lay s (root l) a t) (root r) a t) (layT a t l) x p := (Rep.lay h8 n1).frame (fun z hz => lay_ne (fun hc => n3 z ((items_layT a t l z).1 hz) z hc rfl))
  have k2 : Rep (Go.Proofs.YtcnmbgijehnchaaW.Splay.lay (Go.Proofs.YtcnmbgijehnchaaW.Splay.lay s (root l) a t) (root r) a t) (layT a t r) x p := Rep.lay (h9.frame (fun z hz => lay_ne (fun hc => n3 z hc z hz rfl))) n2
  rw [hp]
  have hx : upd (Go.Proofs.YtcnmbgijehnchaaW.Splay.lay (Go.Proofs.YtcnmbgijehnchaaW.Splay.lay s (root l) a t) (root r) a t) x { s x with a := 0, tn := false } x = { s x with a := 0, tn := false } := upd_same _ _ _
  have hq : sq (.nd x v 0 false (layT a t l) (layT a t r)) p false = sq (.nd x v a t l r) p false := by
    simp only [sq, sq_layT, Bool.false_eq_true, if_false, Bool.xor_false, Int.zero_add]
  have e0 : wrap64 p = wrap64 (0 + p) := by rw [Int.zero_add]
  refine ⟨h0, by rw [hx]; exact h1, by rw [hx, root_layT]; exact h2, by rw [hx, root_layT]; exact h3, by rw [hx]; exact h4, by rw [hx], by rw [hx], by rw [hx, hq]; exact h7, ?_, ?_⟩
  · exact (k1.frame (fun z hz => upd_ne (fun e => nl (by rw [← e]; exact (items_layT a t l z).1 hz)))).congr e0
  · exact (k2.frame (fun z hz => upd_ne (fun e => nr (by rw [← e]; exact (items_layT a t r z).1 hz)))).congr e0
theorem sq_push (x v a p : Int) (t w : Bool) (l r : Tr) : sq (.nd x v 0 false (layT a t l) (layT a t r)) p w = sq (.nd x v a t l r) p w := by
  simp only [sq, sq_layT, Int.zero_add, Bool.false_xor]
theorem pull1_ne {s : Fo} {x c z : Int} (h : z ≠ x) : pull1 s x c z = s z := by
  unfold pull1
  split
  · rfl
  · exact upd_ne h
theorem pull_ne {s : Fo} {x z : Int} (h : z ≠ x) : pull s x z = s z := by
  unfold pull pull0
  rw [pull1_ne h, pull1_ne h, upd_ne h]
theorem mn_cases (a b : Int) : mn a b ≤ a ∧ mn a b ≤ b ∧ (mn a b = a ∨ mn a b = b) := by
  unfold mn
  split
  · exact ⟨by omega, by omega, .inr rfl⟩
  · exact ⟨by omega, by omega, .inl rfl⟩
theorem mx_cases (a b : Int) : a ≤ mx a b ∧ b ≤ mx a b ∧ (mx a b = a ∨ mx a b = b) := by
  unfold mx
  split
  · exact ⟨by omega, by omega, .inr rfl⟩
  · exact ⟨by omega, by omega, .inl rfl⟩
/-- What a node keeps when it is reckoned anew. -/
def Same (n m : Nd) : Prop := n.up = m.up ∧ n.d0 = m.d0 ∧ n.d1 = m.d1 ∧ n.v = m.v ∧ n.a = m.a ∧ n.tn = m.tn
theorem pull1_ag {s : Fo} {x u : Int} {L : List (Int × Int)} {t : Tr} (h : Ag (s x) 0 L) (hr : Rep s t u 0) (hx : x ∉ items t) (hl : L.length + (sq t 0 false).length ≤ 1000000) : Ag (pull1 s x (root t) x) 0 (L ++ sq t 0 false) ∧ Same (pull1 s x (root t) x) (s x) := by
  cases t with
  | nil =>
    refine ⟨?_, ?_⟩
    · show Ag (pull1 s x (-1) x) 0 (L ++ [])
      rw [List.append_nil]
      unfold pull1
      rw [if_pos rfl]
      exact h
    · show Same (pull1 s x (-1) x) _
      unfold pull1
      rw [if_pos rfl]
      exact ⟨rfl, rfl, rfl, rfl, rfl, rfl⟩
  | nd c v a t l r =>
    obtain ⟨c0, _, _, _, _, _, _, hc, _, _⟩ := hr
    have e : pull1 s x (root (.nd c v a t l r)) x = { s x with size := wrap64 ((s x).size + (s c).size), ls := mn (s x).ls (s c).ls, ms := mx (s x).ms (s c).ms } := by
      show pull1 s x c x = _
      unfold pull1
      rw [if_neg (by omega), upd_same]
    rw [e]
    generalize sq (.nd c v a t l r) 0 false = M at hc hl ⊢
    obtain ⟨h1, ⟨w1, w2, w3⟩, h2, ⟨y, y1, y2⟩, ⟨z, z1, z2⟩⟩ := h
    obtain ⟨g1, ⟨v1, v2, v3⟩, g2, ⟨y', y1', y2'⟩, ⟨z', z1', z2'⟩⟩ := hc
    obtain ⟨m1, m2, m3⟩ := mn_cases (s x).ls (s c).ls
    obtain ⟨k1, k2, k3⟩ := mx_cases (s x).ms (s c).ms
    rw [wrap0 w2] at h2 y2
    rw [wrap0 w3] at h2 z2
    rw [wrap0 v2] at g2 y2'
    rw [wrap0 v3] at g2 z2'
    have e1 : wrap64 (mn (s x).ls (s c).ls) = mn (s x).ls (s c).ls := by rcases m3 with e | e <;> rw [e] <;> assumption
    have e2 : wrap64 (mx (s x).ms (s c).ms) = mx (s x).ms (s c).ms := by rcases k3 with e | e <;> rw [e] <;> assumption
    refine ⟨⟨?_, ⟨w1, e1, e2⟩, ?_, ?_, ?_⟩, rfl, rfl, rfl, rfl, rfl, rfl⟩
    · show wrap64 ((s x).size + (s c).size) = _
      rw [h1, g1, List.length_append]
      unfold wrap64
      omega
    · show ∀ q ∈ L ++ M, wrap64 (mn (s x).ls (s c).ls + 0) ≤ q.2 ∧ q.2 ≤ wrap64 (mx (s x).ms (s c).ms + 0)
      rw [wrap0 e1, wrap0 e2]
      intro q hq
      rcases List.mem_append.1 hq with hq | hq
      · have := h2 q hq; omega
      · have := g2 q hq; omega
    · show ∃ q ∈ L ++ M, q.2 = wrap64 (mn (s x).ls (s c).ls + 0)
      rw [wrap0 e1]
      rcases m3 with e | e <;> rw [e]
      · exact ⟨y, List.mem_append_left _ y1, y2⟩
      · exact ⟨y', List.mem_append_right _ y1', y2'⟩
    · show ∃ q ∈ L ++ M, q.2 = wrap64 (mx (s x).ms (s c).ms + 0)
      rw [wrap0 e2]
      rcases k3 with e | e <;> rw [e]
      · exact ⟨z, List.mem_append_left _ z1, z2⟩
      · exact ⟨z', List.mem_append_right _ z1', z2'⟩
theorem Same.trans {a b c : Nd} (h : Same a b) (k : Same b c) : Same a c := ⟨h.1.trans k.1, h.2.1.trans k.2.1, h.2.2.1.trans k.2.2.1, h.2.2.2.1.trans k.2.2.2.1, h.2.2.2.2.1.trans k.2.2.2.2.1, h.2.2.2.2.2.trans k.2.2.2.2.2⟩
/-- A node is reckoned by what is below it. -/
theorem pull_ag {s : Fo} {x u1 u2 : Int} {l r : Tr} (e0 : (s x).d0 = root l) (e1 : (s x).d1 = root r) (hv : wrap64 (s x).v = (s x).v) (hl : Rep s l u1 0) (hr : Rep s r u2 0) (xl : x ∉ items l) (xr : x ∉ items r) (hn : (sq l 0 false).length + (sq r 0 false).length < 1000000) :
    Ag (pull s x x) 0 (sq l 0 false ++ (x, (s x).v) :: sq r 0 false) ∧ Same (pull s x x) (s x) := by
  have hs0 : pull0 s x x = { s x with size := 1, ls := (s x).v, ms := (s x).v } := upd_same _ _ _
  have a0 : Ag (pull0 s x x) 0 [(x, (s x).v)] := by
    rw [hs0]
    refine ⟨rfl, ⟨hv, hv, hv⟩, ?_, ⟨_, List.mem_singleton.2 rfl, (wrap0 hv).symm⟩, ⟨_, List.mem_singleton.2 rfl, (wrap0 hv).symm⟩⟩
    intro y hy
    rw [List.mem_singleton] at hy
    subst hy
    show wrap64 ((s x).v + 0) ≤ (s x).v ∧ (s x).v ≤ wrap64 ((s x).v + 0)
    rw [wrap0 hv]
    omega
  have f0 : ∀ z ∈ items l, pull0 s x z = s z := fun z hz => upd_ne (fun e => xl (by rw [← e]; exact hz))
  obtain ⟨a1, s1⟩ := pull1_ag a0 (hl.frame f0) xl (by rw [List.length_singleton]; omega)
  have f1 : ∀ z ∈ items r, pull1 (pull0 s x) x (root l) z = s z := fun z hz => by
    have hz' : z ≠ x := fun e => xr (by rw [← e]; exact hz)
    rw [pull1_ne hz']
    exact upd_ne hz'
  obtain ⟨a2, s2⟩ := pull1_ag a1 (hr.frame f1) xr (by rw [List.length_append, List.length_singleton]; omega)
  have hp : pull s x = pull1 (pull1 (pull0 s x) x (root l)) x (root r) := by
    unfold pull
    rw [e0, e1]
  rw [hp]
  refine ⟨a2.perm (by simp only [List.length_append, List.length_cons, List.length_nil]; omega) (fun y => by simp only [List.mem_append, List.mem_cons, List.not_mem_nil, or_false]; exact ⟨fun h => h.elim (fun h => h.elim (fun h => .inr (.inl h)) .inl) (fun h => .inr (.inr h)), fun h => h.elim (fun h => .inl (.inr h)) (fun h => h.elim (fun h => .inl (.inl h)) .inr)⟩), (s2.trans s1).trans (by rw [hs0]; exact ⟨rfl, rfl, rfl, rfl, rfl, rfl⟩)⟩

/-- One node of the way up: its item, its value, on which side the way comes, and the tree on its other side. -/
structure Fr where
  y : Int
  v : Int
  sd : Bool
  sib : Tr
def topOf : List Fr → Int
  | [] => -1
  | f :: _ => f.y
def up1 (f : Fr) (L : List (Int × Int)) : List (Int × Int) := if f.sd = true then sq f.sib 0 false ++ (f.y, wrap64 (f.v + 0)) :: L else L ++ (f.y, wrap64 (f.v + 0)) :: sq f.sib 0 false
def RepC (s : Fo) : List Fr → Int → List (Int × Int) → Prop
  | [], _, _ => True
  | f :: C, x, L => 0 ≤ f.y ∧ (s f.y).up = topOf C ∧ (s f.y).d0 = (if f.sd = true then root f.sib else x) ∧ (s f.y).d1 = (if f.sd = true then x else root f.sib) ∧ (s f.y).v = f.v ∧ (s f.y).a = 0 ∧ (s f.y).tn = false ∧ Ag (s f.y) 0 (up1 f L) ∧ Rep s f.sib f.y 0 ∧ RepC s C f.y (up1 f L)
def itemsC : List Fr → List Int
  | [] => []
  | f :: C => f.y :: (items f.sib ++ itemsC C)
theorem RepC.frame {s s' : Fo} : ∀ {C : List Fr} {x : Int} {L : List (Int × Int)}, RepC s C x L → (∀ z ∈ itemsC C, s' z = s z) → RepC s' C x L
  | [], _, _, _, _ => trivial
  | f :: C, x, L, h, hs => by
    obtain ⟨h0, h1, h2, h3, h4, h5, h6, h7, h8, h9⟩ := h
    have e := hs f.y List.mem_cons_self
    exact ⟨h0, by rw [e]; exact h1, by rw [e]; exact h2, by rw [e]; exact h3, by rw [e]; exact h4, by rw [e]; exact h5, by rw [e]; exact h6, by rw [e]; exact h7, h8.frame (fun z hz => hs z (List.mem_cons_of_mem _ (List.mem_append_left _ hz))), h9.frame (fun z hz => hs z (List.mem_cons_of_mem _ (List.mem_append_right _ hz)))⟩
theorem Rep.nonneg {s : Fo} : ∀ {t : Tr} {u p : Int}, Rep s t u p → ∀ z ∈ items t, 0 ≤ z
  | .nil, _, _, _, z, hz => by cases hz
  | .nd x v a t l r, u, p, h, z, hz => by
    obtain ⟨h0, _, _, _, _, _, _, _, h8, h9⟩ := h
    rcases List.mem_cons.1 hz with rfl | hz
    · exact h0
    · rcases List.mem_append.1 hz with hz | hz
      · exact h8.nonneg z hz
      · exact h9.nonneg z hz
theorem RepC.nonneg {s : Fo} : ∀ {C : List Fr} {x : Int} {L : List (Int × Int)}, RepC s C x L → ∀ z ∈ itemsC C, 0 ≤ z
  | [], _, _, _, z, hz => by cases hz
  | f :: C, x, L, h, z, hz => by
    obtain ⟨h0, _, _, _, _, _, _, _, h8, h9⟩ := h
    rcases List.mem_cons.1 hz with rfl | hz
    · exact h0
    · rcases List.mem_append.1 hz with hz | hz
      · exact h8.nonneg z hz
      · exact h9.nonneg z hz
theorem root_mem : ∀ {t : Tr}, root t = -1 ∨ root t ∈ items t
  | .nil => .inl rfl
  | .nd _ _ _ _ _ _ => .inr List.mem_cons_self
/-- Only what is above a tree is another. -/
theorem Rep.reup {s s' : Fo} {u u' p : Int} : ∀ {t : Tr}, Rep s t u p → (items t).Nodup → (∀ z ∈ items t, z ≠ root t → s' z = s z) → (t ≠ .nil → s' (root t) = { s (root t) with up := u' }) → Rep s' t u' p
  | .nil, _, _, _, _ => trivial
  | .nd x v a t l r, h, hn, hs, hx => by
    obtain ⟨h0, h1, h2, h3, h4, h5, h6, h7, h8, h9⟩ := h
    simp only [items, List.nodup_cons, List.mem_append, not_or] at hn
    have e : s' x = { s x with up := u' } := hx (by simp)
    refine ⟨h0, by rw [e], by rw [e]; exact h2, by rw [e]; exact h3, by rw [e]; exact h4, by rw [e]; exact h5, by rw [e]; exact h6, by rw [e]; exact h7, h8.frame (fun z hz => hs z (List.mem_cons_of_mem _ (List.mem_append_left _ hz)) (fun e => hn.1.1 (by rw [← show z = x from e]; exact hz))), h9.frame (fun z hz => hs z (List.mem_cons_of_mem _ (List.mem_append_right _ hz)) (fun e => hn.1.2 (by rw [← show z = x from e]; exact hz)))⟩
theorem hang_ne {s : Fo} {x below sd z : Int} (h1 : z ≠ x) (h2 : z ≠ below) : hang s x below sd z = s z := by
  unfold hang
  split
  · exact upd_ne h2
  · rw [upd_ne h1, upd_ne h2]
theorem hang_below {s : Fo} {x below sd : Int} (h : below ≠ x) : hang s x below sd below = setDn (s below) sd x := by
  unfold hang
  split
  · exact upd_same _ _ _
  · rw [upd_ne h, upd_same]
theorem hang_x {s : Fo} {x below sd : Int} (h : x ≠ below) (h1 : x ≠ -1) : hang s x below sd x = { s x with up := below } := by
  unfold hang
  rw [if_neg h1, upd_same, upd_ne h]
theorem rot2_ne {s : Fo} {x g top z : Int} (h1 : z ≠ x) (h2 : z ≠ g) : rot2 s x g top z = s z := by
  unfold rot2
  split
  · exact upd_ne h1
  · rw [upd_ne h2, upd_ne h1]
theorem rot2_x {s : Fo} {x g top : Int} (h : x ≠ g) : rot2 s x g top x = { s x with up := g } := by
  unfold rot2
  split
  · exact upd_same _ _ _
  · rw [upd_ne h, upd_same]
theorem rot2_g {s : Fo} {x g top : Int} (h : g ≠ x) (h1 : g ≠ -1) : rot2 s x g top g = setDn (s g) top x := by
  unfold rot2
  rw [if_neg h1, upd_same, upd_ne h]
/-- What lies above goes down to another root. -/
theorem RepC.rehead {s s' : Fo} {x p top : Int} {L : List (Int × Int)} : ∀ {C : List Fr}, RepC s C p L → (itemsC C).Nodup → (∀ z ∈ itemsC C, z ≠ topOf C → s' z = s z) → (C ≠ [] → s' (topOf C) = setDn (s (topOf C)) top x) → (∀ f C', C = f :: C' → top = if f.sd = true then 1 else 0) → RepC s' C x L
  | [], _, _, _, _, _ => trivial
  | f :: C, h, hn, hs, hx, ht => by
    obtain ⟨h0, h1, h2, h3, h4, h5, h6, h7, h8, h9⟩ := h
    simp only [itemsC, List.nodup_cons, List.mem_append, not_or] at hn
    have e : s' f.y = setDn (s f.y) top x := hx (by simp)
    have et := ht f C rfl
    have k1 : Rep s' f.sib f.y 0 := h8.frame (fun z hz => hs z (List.mem_cons_of_mem _ (List.mem_append_left _ hz)) (fun e => hn.1.1 (by rw [← show z = f.y from e]; exact hz)))
    have k2 : RepC s' C f.y (up1 f L) := h9.frame (fun z hz => hs z (List.mem_cons_of_mem _ (List.mem_append_right _ hz)) (fun e => hn.1.2 (by rw [← show z = f.y from e]; exact hz)))
    refine ⟨h0, ?_, ?_, ?_, ?_, ?_, ?_, ?_, k1, k2⟩
    · rw [e]; unfold setDn; split <;> exact h1
    · rw [e, et]
      cases hsd : f.sd with
      | false => simp [setDn]
      | true => rw [hsd] at h2; simpa [setDn] using h2
    · rw [e, et]
      cases hsd : f.sd with
      | false => rw [hsd] at h3; simpa [setDn] using h3
      | true => simp [setDn]
    · rw [e]; unfold setDn; split <;> exact h4
    · rw [e]; unfold setDn; split <;> exact h5
    · rw [e]; unfold setDn; split <;> exact h6
    · rw [e]; unfold setDn; split <;> exact h7
/-- A tree, from its parts. -/
theorem Rep.mk {s : Fo} {x v u : Int} {l r : Tr} (h0 : 0 ≤ x) (h1 : (s x).up = u) (h2 : (s x).d0 = root l) (h3 : (s x).d1 = root r) (h4 : (s x).v = v) (h5 : (s x).a = 0) (h6 : (s x).tn = false) (h7 : Ag (s x) 0 (sq l 0 false ++ (x, wrap64 (v + 0)) :: sq r 0 false)) (h8 : Rep s l x 0) (h9 : Rep s r x 0) : Rep s (.nd x v 0 false l r) u 0 :=
  ⟨h0, h1, h2, h3, h4, h5, h6, h7, h8, h9⟩


theorem rotate_left {s : Fo} {x vx p vp g : Int} {A B D : Tr} {C : List Fr} (hT : Rep s (.nd x vx 0 false A B) p 0) (hC : RepC s (⟨p, vp, false, D⟩ :: C) x (sq (.nd x vx 0 false A B) 0 false)) (hg : g = topOf C) (hn : (items (.nd x vx 0 false A B) ++ itemsC (⟨p, vp, false, D⟩ :: C)).Nodup) (hl : (up1 ⟨p, vp, false, D⟩ (sq (.nd x vx 0 false A B) 0 false)).length ≤ 1000000) :
    Rep (rotate s x) (.nd x vx 0 false A (.nd p vp 0 false B D)) g 0 ∧ RepC (rotate s x) C x (sq (.nd x vx 0 false A (.nd p vp 0 false B D)) 0 false) ∧ sq (.nd x vx 0 false A (.nd p vp 0 false B D)) 0 false = up1 ⟨p, vp, false, D⟩ (sq (.nd x vx 0 false A B) 0 false) ∧ ∀ z, z ≠ -1 → z ∉ items (.nd x vx 0 false A B) ++ itemsC (⟨p, vp, false, D⟩ :: C) → rotate s x z = s z := by
  have hnnT := hT.nonneg
  have hnnC := hC.nonneg
  obtain ⟨x0, x1, x2, x3, x4, x5, x6, x7, xA, xB⟩ := hT
  obtain ⟨p0, p1, p2, p3, p4, p5, p6, p7, pD, pC⟩ := hC
  simp only [if_true, Bool.false_eq_true, if_false] at p0 p1 p2 p3 p4 p5 p6 p7 pD pC
  rw [← hg] at p1
  have hsq : sq (.nd x vx 0 false A (.nd p vp 0 false B D)) 0 false = up1 ⟨p, vp, false, D⟩ (sq (.nd x vx 0 false A B) 0 false) := by
    simp only [sq, up1, Bool.false_eq_true, if_false, if_true, Int.add_zero, Bool.xor_false, List.append_assoc, List.cons_append]
  simp only [items, itemsC, List.cons_append, List.nodup_cons, List.mem_append, List.mem_cons, not_or] at hn
  obtain ⟨⟨⟨nxA, nxB⟩, nxp, nxD, nxC⟩, hn⟩ := hn
  obtain ⟨hAB, hpc, hABpc⟩ := List.nodup_append.1 hn
  obtain ⟨nA, nB, hAB2⟩ := List.nodup_append.1 hAB
  simp only [List.nodup_cons, List.mem_append, not_or] at hpc
  obtain ⟨⟨npD, npC⟩, hDC⟩ := hpc
  obtain ⟨nD, nC, hDC2⟩ := List.nodup_append.1 hDC
  have npA : p ∉ items A := fun h => hABpc p (List.mem_append_left _ h) p List.mem_cons_self rfl
  have npB : p ∉ items B := fun h => hABpc p (List.mem_append_right _ h) p List.mem_cons_self rfl
  have nDA : ∀ z ∈ items D, z ∉ items A := fun z hz h => hABpc z (List.mem_append_left _ h) z (List.mem_cons_of_mem _ (List.mem_append_left _ hz)) rfl
  have nDB : ∀ z ∈ items D, z ∉ items B := fun z hz h => hABpc z (List.mem_append_right _ h) z (List.mem_cons_of_mem _ (List.mem_append_left _ hz)) rfl
  have nCA : ∀ z ∈ itemsC C, z ∉ items A := fun z hz h => hABpc z (List.mem_append_left _ h) z (List.mem_cons_of_mem _ (List.mem_append_right _ hz)) rfl
  have nCB : ∀ z ∈ itemsC C, z ∉ items B := fun z hz h => hABpc z (List.mem_append_right _ h) z (List.mem_cons_of_mem _ (List.mem_append_right _ hz)) rfl
  have nBA : ∀ z ∈ items B, z ∉ items A := fun z hz h => hAB2 z h z hz rfl
  have nCD : ∀ z ∈ itemsC C, z ∉ items D := fun z hz h => hDC2 z h z hz rfl
  have gC : g = -1 ∨ g ∈ itemsC C := by
    rw [hg]
    cases C with
    | nil => exact .inl rfl
    | cons f C => exact .inr List.mem_cons_self
  have nnC : ∀ z ∈ itemsC C, 0 ≤ z := fun z hz => hnnC z (List.mem_cons_of_mem _ (List.mem_append_right _ hz))
  have nnA : ∀ z ∈ items A, 0 ≤ z := fun z hz => hnnT z (List.mem_cons_of_mem _ (List.mem_append_left _ hz))
  have nnB : ∀ z ∈ items B, 0 ≤ z := fun z hz => hnnT z (List.mem_cons_of_mem _ (List.mem_append_right _ hz))
  have nnD : ∀ z ∈ items D, 0 ≤ z := fun z hz => hnnC z (List.mem_cons_of_mem _ (List.mem_append_left _ hz))
  have gx : x ≠ g := by
    rcases gC with e | e
    · omega
    · exact fun h => nxC (by rw [h]; exact e)
  have gp : p ≠ g := by
    rcases gC with e | e
    · have : (0 : Int) ≤ p := p0
      omega
    · exact fun h => npC (by rw [h]; exact e)
  have bx : x ≠ root B := by
    rcases root_mem (t := B) with e | e
    · omega
    · exact fun h => nxB (by rw [h]; exact e)
  have bp : p ≠ root B := by
    rcases root_mem (t := B) with e | e
    · have : (0 : Int) ≤ p := p0
      omega
    · exact fun h => npB (by rw [h]; exact e)
  have bg : B ≠ .nil → root B ≠ g := fun hb => by
    have hb2 : root B ∈ items B := by
      cases h : B with
      | nil => exact absurd h hb
      | nd _ _ _ _ _ _ => exact List.mem_cons_self
    have h0 := nnB _ hb2
    rcases gC with e | e
    · omega
    · exact fun h => nCB g e (by rw [← h]; exact hb2)
  have b1 : B ≠ .nil → root B ≠ -1 := fun hb => by
    cases h : B with
    | nil => exact absurd h hb
    | nd y _ _ _ _ _ =>
      have h0 := nnB y (by rw [h]; exact List.mem_cons_self)
      show y ≠ -1
      omega
  have gz : ∀ {z : Int}, 0 ≤ z → z ∉ itemsC C → z ≠ g := fun {z} h0 hz => by
    rcases gC with e | e
    · omega
    · exact fun h => hz (by rw [h]; exact e)
  have bz : ∀ {z : Int}, 0 ≤ z → z ∉ items B → z ≠ root B := fun {z} h0 hz => by
    rcases root_mem (t := B) with e | e
    · omega
    · exact fun h => hz (by rw [h]; exact e)
  have pz : ∀ {z : Int}, z ≠ p → z ≠ root B → hang s (root B) p 0 z = s z := fun hz1 hz2 => hang_ne hz2 hz1
  -- the new world, node by node
  obtain ⟨top, htop⟩ : ∃ top, (if g = -1 then 0 else side s p) = top := ⟨_, rfl⟩
  obtain ⟨u, hu⟩ : ∃ u, rot2 (hang (hang s (root B) p 0) p x 1) x g top = u := ⟨_, rfl⟩
  have hside : side s x = 0 := by
    unfold side
    rw [x1]
    rw [p3]
    refine if_neg (fun e => ?_)
    rcases root_mem (t := D) with h | h
    · omega
    · exact nxD (by rw [← e]; exact h)
  have hrot : rotate s x = pull (pull u p) x := by
    unfold rotate rot1
    rw [hside, x1, p1, htop, ← hu]
    show pull (pull (rot2 (hang (hang s (s x).d1 p 0) p x 1) x g top) p) x = _
    rw [x3]
  have ux : u x = { setDn (s x) 1 p with up := g } := by
    rw [← hu, rot2_x gx, hang_below nxp, pz nxp bx]
  have upp : u p = { setDn (s p) 0 (root B) with up := x } := by
    rw [← hu, rot2_ne (fun e => nxp e.symm) gp, hang_x (fun e => nxp e.symm) (by have : (0 : Int) ≤ p := p0; omega), hang_below bp]
  have ub : B ≠ .nil → u (root B) = { s (root B) with up := p } := fun hb => by
    rw [← hu, rot2_ne (fun e => bx e.symm) (bg hb), hang_ne (fun e => bp e.symm) (fun e => bx e.symm), hang_x (fun e => bp e.symm) (b1 hb)]
  have uz : ∀ {z : Int}, z ≠ x → z ≠ p → z ≠ root B → z ≠ g → u z = s z := fun {z} h1 h2 h3 h4 => by
    rw [← hu, rot2_ne h1 h4, hang_ne h2 h1, pz h2 h3]
  have ug : g ≠ -1 → u g = setDn (s g) top x := fun hg1 => by
    have gb : g ≠ root B := by
      rcases root_mem (t := B) with e | e
      · omega
      · rcases gC with e2 | e2
        · exact absurd e2 hg1
        · exact fun h => nCB g e2 (by rw [h]; exact e)
    rw [← hu, rot2_g (fun e => gx e.symm) hg1, hang_ne (fun e => gp e.symm) (fun e => gx e.symm), pz (fun e => gp e.symm) gb]
  have RM : Rep u B p 0 := Rep.reup xB nB (fun z hz hr => uz (fun e => nxB (by rw [← e]; exact hz)) (fun e => npB (by rw [← e]; exact hz)) hr (gz (nnB z hz) (fun h => nCB z h hz))) ub
  have RK : Rep u A x 0 := xA.frame (fun z hz => uz (fun e => nxA (by rw [← e]; exact hz)) (fun e => npA (by rw [← e]; exact hz)) (bz (nnA z hz) (fun h => nBA z h hz)) (gz (nnA z hz) (fun h => nCA z h hz)))
  have RD : Rep u D p 0 := pD.frame (fun z hz => uz (fun e => nxD (by rw [← e]; exact hz)) (fun e => npD (by rw [← e]; exact hz)) (bz (nnD z hz) (nDB z hz)) (gz (nnD z hz) (fun h => nCD z h hz)))
  -- reckoned anew
  have hlA := sq_length A (0 + 0) 0 false false
  have hlB := sq_length B (0 + 0) 0 false false
  have hlen : (sq A 0 false).length + (sq B 0 false).length + (sq D 0 false).length + 2 ≤ 1000000 := by
    simp only [up1, sq, Bool.false_eq_true, if_false, if_true, List.length_append, List.length_cons, Int.add_zero, Bool.xor_false] at hl
    omega
  have wv : wrap64 vp = vp := by have h := p7.2.1.1; rw [p4] at h; exact h
  have wx : wrap64 vx = vx := by have h := x7.2.1.1; rw [x4] at h; exact h
  have upv : (u p).v = vp := by rw [upp]; exact p4
  obtain ⟨agp, smp⟩ := pull_ag (s := u) (x := p) (l := B) (r := D) (u1 := p) (u2 := p) (by rw [upp]; rfl) (by rw [upp]; exact p3) (by rw [upv]; exact wv) RM RD npB npD (by omega)
  rw [upv] at agp
  have RP : Rep (pull u p) (.nd p vp 0 false B D) x 0 := Rep.mk p0 (by rw [smp.1, upp]) (by rw [smp.2.1, upp]; rfl) (by rw [smp.2.2.1, upp]; exact p3) (by rw [smp.2.2.2.1]; exact upv) (by rw [smp.2.2.2.2.1, upp]; exact p5) (by rw [smp.2.2.2.2.2, upp]; exact p6) (by rw [wrap0 wv]; exact agp) (RM.frame (fun z hz => pull_ne (fun e => npB (by rw [← e]; exact hz)))) (RD.frame (fun z hz => pull_ne (fun e => npD (by rw [← e]; exact hz))))
  have RK2 : Rep (pull u p) A x 0 := RK.frame (fun z hz => pull_ne (fun e => npA (by rw [← e]; exact hz)))
  have vx2 : pull u p x = u x := pull_ne nxp
  have vxv : (pull u p x).v = vx := by rw [vx2, ux]; exact x4
  have nxP : x ∉ items (.nd p vp 0 false B D) := by
    simp only [items, List.mem_cons, List.mem_append, not_or]
    exact ⟨nxp, nxB, nxD⟩
  obtain ⟨agx, smx⟩ := pull_ag (s := pull u p) (x := x) (l := A) (r := (.nd p vp 0 false B D)) (u1 := x) (u2 := x) (by rw [vx2, ux]; exact x2) (by rw [vx2, ux]; rfl) (by rw [vxv]; exact wx) RK2 RP nxA nxP (by
    simp only [sq, Bool.false_eq_true, if_false, Int.add_zero, Bool.xor_false, List.length_append, List.length_cons]
    omega)
  rw [vxv] at agx
  have RX : Rep (pull (pull u p) x) (.nd x vx 0 false A (.nd p vp 0 false B D)) g 0 := Rep.mk x0 (by rw [smx.1, vx2, ux]) (by rw [smx.2.1, vx2, ux]; exact x2) (by rw [smx.2.2.1, vx2, ux]; rfl) (by rw [smx.2.2.2.1]; exact vxv) (by rw [smx.2.2.2.2.1, vx2, ux]; exact x5) (by rw [smx.2.2.2.2.2, vx2, ux]; exact x6) (by rw [wrap0 wx]; exact agx) (RK2.frame (fun z hz => pull_ne (fun e => nxA (by rw [← e]; exact hz)))) (RP.frame (fun z hz => pull_ne (fun e => nxP (by rw [← e]; exact hz))))
  rw [hrot]
  refine ⟨RX, ?_, hsq, fun z hz1 hz2 => ?_⟩
  · rw [hsq]
    refine RepC.rehead (top := top) pC nC (fun z hz hzt => ?_) (fun hc => ?_) (fun f C' e => ?_)
    · have z1 : z ≠ x := fun e => nxC (by rw [← e]; exact hz)
      have z2 : z ≠ p := fun e => npC (by rw [← e]; exact hz)
      rw [pull_ne z1, pull_ne z2]
      exact uz z1 z2 (bz (nnC z hz) (nCB z hz)) (by rw [hg]; exact hzt)
    · rw [← hg, pull_ne (fun e => gx e.symm), pull_ne (fun e => gp e.symm)]
      refine ug (fun e => ?_)
      cases hCC : C with
      | nil => exact hc hCC
      | cons f C' =>
        have h0 := nnC f.y (by rw [hCC]; exact List.mem_cons_self)
        rw [hg, hCC] at e
        have e : f.y = -1 := e
        omega
    · rw [e] at pC hg
      obtain ⟨f0, f1, f2, f3, _⟩ := pC
      have hg2 : g = f.y := hg
      rw [← htop, if_neg (by omega)]
      unfold side
      rw [p1, hg2, f3]
      cases hsd : f.sd with
      | true => simp
      | false =>
        simp only [Bool.false_eq_true, if_false]
        refine if_neg (fun e2 => npC ?_)
        rw [e, ← e2]
        rcases root_mem (t := f.sib) with e3 | e3
        · rw [e3] at e2
          have : (0 : Int) ≤ p := p0
          omega
        · exact List.mem_cons_of_mem _ (List.mem_append_left _ e3)
  · simp only [items, itemsC, List.cons_append, List.mem_append, List.mem_cons, not_or] at hz2
    obtain ⟨z1, ⟨zA, zB⟩, z2, zD, zC⟩ := hz2
    rw [pull_ne z1, pull_ne z2]
    refine uz z1 z2 ?_ ?_
    · rcases root_mem (t := B) with e | e
      · omega
      · exact fun h => zB (by rw [h]; exact e)
    · rcases gC with e | e
      · omega
      · exact fun h => zC (by rw [h]; exact e)

theorem rotate_right {s : Fo} {x vx p vp g : Int} {A B D : Tr} {C : List Fr} (hT : Rep s (.nd x vx 0 false A B) p 0) (hC : RepC s (⟨p, vp, true, D⟩ :: C) x (sq (.nd x vx 0 false A B) 0 false)) (hg : g = topOf C) (hn : (items (.nd x vx 0 false A B) ++ itemsC (⟨p, vp, true, D⟩ :: C)).Nodup) (hl : (up1 ⟨p, vp, true, D⟩ (sq (.nd x vx 0 false A B) 0 false)).length ≤ 1000000) :
    Rep (rotate s x) (.nd x vx 0 false (.nd p vp 0 false D A) B) g 0 ∧ RepC (rotate s x) C x (sq (.nd x vx 0 false (.nd p vp 0 false D A) B) 0 false) ∧ sq (.nd x vx 0 false (.nd p vp 0 false D A) B) 0 false = up1 ⟨p, vp, true, D⟩ (sq (.nd x vx 0 false A B) 0 false) ∧ ∀ z, z ≠ -1 → z ∉ items (.nd x vx 0 false A B) ++ itemsC (⟨p, vp, true, D⟩ :: C) → rotate s x z = s z := by
  have hnnT := hT.nonneg
  have hnnC := hC.nonneg
  obtain ⟨x0, x1, x2, x3, x4, x5, x6, x7, xA, xB⟩ := hT
  obtain ⟨p0, p1, p2, p3, p4, p5, p6, p7, pD, pC⟩ := hC
  simp only [if_true, Bool.false_eq_true, if_false] at p0 p1 p2 p3 p4 p5 p6 p7 pD pC
  rw [← hg] at p1
  have hsq : sq (.nd x vx 0 false (.nd p vp 0 false D A) B) 0 false = up1 ⟨p, vp, true, D⟩ (sq (.nd x vx 0 false A B) 0 false) := by
    simp only [sq, up1, Bool.false_eq_true, if_false, if_true, Int.add_zero, Bool.xor_false, List.append_assoc, List.cons_append]
  simp only [items, itemsC, List.cons_append, List.nodup_cons, List.mem_append, List.mem_cons, not_or] at hn
  obtain ⟨⟨⟨nxA, nxB⟩, nxp, nxD, nxC⟩, hn⟩ := hn
  obtain ⟨hAB, hpc, hABpc⟩ := List.nodup_append.1 hn
  obtain ⟨nA, nB, hAB2⟩ := List.nodup_append.1 hAB
  simp only [List.nodup_cons, List.mem_append, not_or] at hpc
  obtain ⟨⟨npD, npC⟩, hDC⟩ := hpc
  obtain ⟨nD, nC, hDC2⟩ := List.nodup_append.1 hDC
  have npA : p ∉ items A := fun h => hABpc p (List.mem_append_left _ h) p List.mem_cons_self rfl
  have npB : p ∉ items B := fun h => hABpc p (List.mem_append_right _ h) p List.mem_cons_self rfl
  have nDA : ∀ z ∈ items D, z ∉ items A := fun z hz h => hABpc z (List.mem_append_left _ h) z (List.mem_cons_of_mem _ (List.mem_append_left _ hz)) rfl
  have nDB : ∀ z ∈ items D, z ∉ items B := fun z hz h => hABpc z (List.mem_append_right _ h) z (List.mem_cons_of_mem _ (List.mem_append_left _ hz)) rfl
  have nCA : ∀ z ∈ itemsC C, z ∉ items A := fun z hz h => hABpc z (List.mem_append_left _ h) z (List.mem_cons_of_mem _ (List.mem_append_right _ hz)) rfl
  have nCB : ∀ z ∈ itemsC C, z ∉ items B := fun z hz h => hABpc z (List.mem_append_right _ h) z (List.mem_cons_of_mem _ (List.mem_append_right _ hz)) rfl
  have nBA : ∀ z ∈ items B, z ∉ items A := fun z hz h => hAB2 z h z hz rfl
  have nCD : ∀ z ∈ itemsC C, z ∉ items D := fun z hz h => hDC2 z h z hz rfl
  have gC : g = -1 ∨ g ∈ itemsC C := by
    rw [hg]
    cases C with
    | nil => exact .inl rfl
    | cons f C => exact .inr List.mem_cons_self
  have nnC : ∀ z ∈ itemsC C, 0 ≤ z := fun z hz => hnnC z (List.mem_cons_of_mem _ (List.mem_append_right _ hz))
  have nnA : ∀ z ∈ items A, 0 ≤ z := fun z hz => hnnT z (List.mem_cons_of_mem _ (List.mem_append_left _ hz))
  have nnB : ∀ z ∈ items B, 0 ≤ z := fun z hz => hnnT z (List.mem_cons_of_mem _ (List.mem_append_right _ hz))
  have nnD : ∀ z ∈ items D, 0 ≤ z := fun z hz => hnnC z (List.mem_cons_of_mem _ (List.mem_append_left _ hz))
  have gx : x ≠ g := by
    rcases gC with e | e
    · omega
    · exact fun h => nxC (by rw [h]; exact e)
  have gp : p ≠ g := by
    rcases gC with e | e
    · have : (0 : Int) ≤ p := p0
      omega
    · exact fun h => npC (by rw [h]; exact e)
  have bx : x ≠ root A := by
    rcases root_mem (t := A) with e | e
    · omega
    · exact fun h => nxA (by rw [h]; exact e)
  have bp : p ≠ root A := by
    rcases root_mem (t := A) with e | e
    · have : (0 : Int) ≤ p := p0
      omega
    · exact fun h => npA (by rw [h]; exact e)
  have bg : A ≠ .nil → root A ≠ g := fun hb => by
    have hb2 : root A ∈ items A := by
      cases h : A with
      | nil => exact absurd h hb
      | nd _ _ _ _ _ _ => exact List.mem_cons_self
    have h0 := nnA _ hb2
    rcases gC with e | e
    · omega
    · exact fun h => nCA g e (by rw [← h]; exact hb2)
  have b1 : A ≠ .nil → root A ≠ -1 := fun hb => by
    cases h : A with
    | nil => exact absurd h hb
    | nd y _ _ _ _ _ =>
      have h0 := nnA y (by rw [h]; exact List.mem_cons_self)
      show y ≠ -1
      omega
  have gz : ∀ {z : Int}, 0 ≤ z → z ∉ itemsC C → z ≠ g := fun {z} h0 hz => by
    rcases gC with e | e
    · omega
    · exact fun h => hz (by rw [h]; exact e)
  have bz : ∀ {z : Int}, 0 ≤ z → z ∉ items A → z ≠ root A := fun {z} h0 hz => by
    rcases root_mem (t := A) with e | e
    · omega
    · exact fun h => hz (by rw [h]; exact e)
  have pz : ∀ {z : Int}, z ≠ p → z ≠ root A → hang s (root A) p 1 z = s z := fun hz1 hz2 => hang_ne hz2 hz1
  -- the new world, node by node
  obtain ⟨top, htop⟩ : ∃ top, (if g = -1 then 0 else side s p) = top := ⟨_, rfl⟩
  obtain ⟨u, hu⟩ : ∃ u, rot2 (hang (hang s (root A) p 1) p x 0) x g top = u := ⟨_, rfl⟩
  have hside : side s x = 1 := by
    unfold side
    rw [x1]
    rw [p3]
    exact if_pos rfl
  have hrot : rotate s x = pull (pull u p) x := by
    unfold rotate rot1
    rw [hside, x1, p1, htop, ← hu]
    show pull (pull (rot2 (hang (hang s (s x).d0 p 1) p x 0) x g top) p) x = _
    rw [x2]
  have ux : u x = { setDn (s x) 0 p with up := g } := by
    rw [← hu, rot2_x gx, hang_below nxp, pz nxp bx]
  have upp : u p = { setDn (s p) 1 (root A) with up := x } := by
    rw [← hu, rot2_ne (fun e => nxp e.symm) gp, hang_x (fun e => nxp e.symm) (by have : (0 : Int) ≤ p := p0; omega), hang_below bp]
  have ub : A ≠ .nil → u (root A) = { s (root A) with up := p } := fun hb => by
    rw [← hu, rot2_ne (fun e => bx e.symm) (bg hb), hang_ne (fun e => bp e.symm) (fun e => bx e.symm), hang_x (fun e => bp e.symm) (b1 hb)]
  have uz : ∀ {z : Int}, z ≠ x → z ≠ p → z ≠ root A → z ≠ g → u z = s z := fun {z} h1 h2 h3 h4 => by
    rw [← hu, rot2_ne h1 h4, hang_ne h2 h1, pz h2 h3]
  have ug : g ≠ -1 → u g = setDn (s g) top x := fun hg1 => by
    have gb : g ≠ root A := by
      rcases root_mem (t := A) with e | e
      · omega
      · rcases gC with e2 | e2
        · exact absurd e2 hg1
        · exact fun h => nCA g e2 (by rw [h]; exact e)
    rw [← hu, rot2_g (fun e => gx e.symm) hg1, hang_ne (fun e => gp e.symm) (fun e => gx e.symm), pz (fun e => gp e.symm) gb]
  have RM : Rep u A p 0 := Rep.reup xA nA (fun z hz hr => uz (fun e => nxA (by rw [← e]; exact hz)) (fun e => npA (by rw [← e]; exact hz)) hr (gz (nnA z hz) (fun h => nCA z h hz))) ub
  have RK : Rep u B x 0 := xB.frame (fun z hz => uz (fun e => nxB (by rw [← e]; exact hz)) (fun e => npB (by rw [← e]; exact hz)) (bz (nnB z hz) (fun h => nBA z hz h)) (gz (nnB z hz) (fun h => nCB z h hz)))
  have RD : Rep u D p 0 := pD.frame (fun z hz => uz (fun e => nxD (by rw [← e]; exact hz)) (fun e => npD (by rw [← e]; exact hz)) (bz (nnD z hz) (nDA z hz)) (gz (nnD z hz) (fun h => nCD z h hz)))
  -- reckoned anew
  have hlA := sq_length A (0 + 0) 0 false false
  have hlB := sq_length B (0 + 0) 0 false false
  have hlen : (sq A 0 false).length + (sq B 0 false).length + (sq D 0 false).length + 2 ≤ 1000000 := by
    simp only [up1, sq, Bool.false_eq_true, if_false, if_true, List.length_append, List.length_cons, Int.add_zero, Bool.xor_false] at hl
    omega
  have wv : wrap64 vp = vp := by have h := p7.2.1.1; rw [p4] at h; exact h
  have wx : wrap64 vx = vx := by have h := x7.2.1.1; rw [x4] at h; exact h
  have upv : (u p).v = vp := by rw [upp]; exact p4
  obtain ⟨agp, smp⟩ := pull_ag (s := u) (x := p) (l := D) (r := A) (u1 := p) (u2 := p) (by rw [upp]; exact p2) (by rw [upp]; rfl) (by rw [upv]; exact wv) RD RM npD npA (by omega)
  rw [upv] at agp
  have RP : Rep (pull u p) (.nd p vp 0 false D A) x 0 := Rep.mk p0 (by rw [smp.1, upp]) (by rw [smp.2.1, upp]; exact p2) (by rw [smp.2.2.1, upp]; rfl) (by rw [smp.2.2.2.1]; exact upv) (by rw [smp.2.2.2.2.1, upp]; exact p5) (by rw [smp.2.2.2.2.2, upp]; exact p6) (by rw [wrap0 wv]; exact agp) (RD.frame (fun z hz => pull_ne (fun e => npD (by rw [← e]; exact hz)))) (RM.frame (fun z hz => pull_ne (fun e => npA (by rw [← e]; exact hz))))
  have RK2 : Rep (pull u p) B x 0 := RK.frame (fun z hz => pull_ne (fun e => npB (by rw [← e]; exact hz)))
  have vx2 : pull u p x = u x := pull_ne nxp
  have vxv : (pull u p x).v = vx := by rw [vx2, ux]; exact x4
  have nxP : x ∉ items (.nd p vp 0 false D A) := by
    simp only [items, List.mem_cons, List.mem_append, not_or]
    exact ⟨nxp, nxD, nxA⟩
  obtain ⟨agx, smx⟩ := pull_ag (s := pull u p) (x := x) (l := (.nd p vp 0 false D A)) (r := B) (u1 := x) (u2 := x) (by rw [vx2, ux]; rfl) (by rw [vx2, ux]; exact x3) (by rw [vxv]; exact wx) RP RK2 nxP nxB (by
    simp only [sq, Bool.false_eq_true, if_false, Int.add_zero, Bool.xor_false, List.length_append, List.length_cons]
    omega)
  rw [vxv] at agx
  have RX : Rep (pull (pull u p) x) (.nd x vx 0 false (.nd p vp 0 false D A) B) g 0 := Rep.mk x0 (by rw [smx.1, vx2, ux]) (by rw [smx.2.1, vx2, ux]; rfl) (by rw [smx.2.2.1, vx2, ux]; exact x3) (by rw [smx.2.2.2.1]; exact vxv) (by rw [smx.2.2.2.2.1, vx2, ux]; exact x5) (by rw [smx.2.2.2.2.2, vx2, ux]; exact x6) (by rw [wrap0 wx]; exact agx) (RP.frame (fun z hz => pull_ne (fun e => nxP (by rw [← e]; exact hz)))) (RK2.frame (fun z hz => pull_ne (fun e => nxB (by rw [← e]; exact hz))))
  rw [hrot]
  refine ⟨RX, ?_, hsq, fun z hz1 hz2 => ?_⟩
  · rw [hsq]
    refine RepC.rehead (top := top) pC nC (fun z hz hzt => ?_) (fun hc => ?_) (fun f C' e => ?_)
    · have z1 : z ≠ x := fun e => nxC (by rw [← e]; exact hz)
      have z2 : z ≠ p := fun e => npC (by rw [← e]; exact hz)
      rw [pull_ne z1, pull_ne z2]
      exact uz z1 z2 (bz (nnC z hz) (nCA z hz)) (by rw [hg]; exact hzt)
    · rw [← hg, pull_ne (fun e => gx e.symm), pull_ne (fun e => gp e.symm)]
      refine ug (fun e => ?_)
      cases hCC : C with
      | nil => exact hc hCC
      | cons f C' =>
        have h0 := nnC f.y (by rw [hCC]; exact List.mem_cons_self)
        rw [hg, hCC] at e
        have e : f.y = -1 := e
        omega
    · rw [e] at pC hg
      obtain ⟨f0, f1, f2, f3, _⟩ := pC
      have hg2 : g = f.y := hg
      rw [← htop, if_neg (by omega)]
      unfold side
      rw [p1, hg2, f3]
      cases hsd : f.sd with
      | true => simp
      | false =>
        simp only [Bool.false_eq_true, if_false]
        refine if_neg (fun e2 => npC ?_)
        rw [e, ← e2]
        rcases root_mem (t := f.sib) with e3 | e3
        · rw [e3] at e2
          have : (0 : Int) ≤ p := p0
          omega
        · exact List.mem_cons_of_mem _ (List.mem_append_left _ e3)
  · simp only [items, itemsC, List.cons_append, List.mem_append, List.mem_cons, not_or] at hz2
    obtain ⟨z1, ⟨zA, zB⟩, z2, zD, zC⟩ := hz2
    rw [pull_ne z1, pull_ne z2]
    refine uz z1 z2 ?_ ?_
    · rcases root_mem (t := A) with e | e
      · omega
      · exact fun h => zA (by rw [h]; exact e)
    · rcases gC with e | e
      · omega
      · exact fun h => zC (by rw [h]; exact e)

theorem sq_perm : ∀ (t : Tr) (p : Int) (u : Bool), ((sq t p u).map Prod.fst).Perm (items t)
  | .nil, _, _ => List.Perm.refl _
  | .nd x v a t l r, p, u => by
    have hl := sq_perm l (a + p) (t ^^ u)
    have hr := sq_perm r (a + p) (t ^^ u)
    cases u with
    | false =>
      simp only [sq, items, Bool.false_eq_true, if_false, List.map_append, List.map_cons]
      exact (List.perm_middle).trans ((hl.append hr).cons _)
    | true =>
      simp only [sq, items, if_true, List.map_append, List.map_cons]
      exact (List.perm_middle).trans (((hr.append hl).trans List.perm_append_comm).cons _)
/-- The whole row, from a part of it and what lies above. -/
def plugL : List Fr → List (Int × Int) → List (Int × Int)
  | [], L => L
  | f :: C, L => plugL C (up1 f L)
theorem up1_perm (f : Fr) (L : List (Int × Int)) : ((up1 f L).map Prod.fst).Perm (f.y :: (items f.sib ++ L.map Prod.fst)) := by
  have h := sq_perm f.sib 0 false
  unfold up1
  split
  · simp only [List.map_append, List.map_cons]
    exact (List.perm_middle).trans ((h.append (List.Perm.refl _)).cons _)
  · simp only [List.map_append, List.map_cons]
    exact (List.perm_middle).trans ((List.perm_append_comm.trans (h.append (List.Perm.refl _))).cons _)
theorem plugL_perm : ∀ (C : List Fr) (L : List (Int × Int)), ((plugL C L).map Prod.fst).Perm (L.map Prod.fst ++ itemsC C)
  | [], L => by simp [plugL, itemsC]
  | f :: C, L => by
    refine (plugL_perm C (up1 f L)).trans ?_
    refine ((up1_perm f L).append (List.Perm.refl (itemsC C))).trans ?_
    simp only [itemsC, List.cons_append, List.append_assoc]
    refine List.Perm.trans ?_ (List.perm_middle).symm
    refine List.Perm.cons _ ?_
    refine (List.perm_append_comm_assoc ..)
theorem whole_perm (C : List Fr) (t : Tr) : ((plugL C (sq t 0 false)).map Prod.fst).Perm (items t ++ itemsC C) :=
  (plugL_perm C _).trans ((sq_perm t 0 false).append (List.Perm.refl _))
theorem up1_len (f : Fr) (L : List (Int × Int)) : L.length ≤ (up1 f L).length := by
  unfold up1
  split <;> simp only [List.length_append, List.length_cons] <;> omega
theorem plugL_len : ∀ (C : List Fr) (L : List (Int × Int)), L.length ≤ (plugL C L).length
  | [], _ => Nat.le_refl _
  | f :: C, L => Nat.le_trans (up1_len f L) (plugL_len C _)
/-- A part of a tree that lies in the forest, what lies above it, and the whole row. -/
structure Zip (s : Fo) (C : List Fr) (t : Tr) (W : List (Int × Int)) : Prop where
  rep : Rep s t (topOf C) 0
  repC : RepC s C (root t) (sq t 0 false)
  whole : plugL C (sq t 0 false) = W
  nodup : (W.map Prod.fst).Nodup
  len : W.length ≤ 1000000
theorem Zip.nd {s : Fo} {C : List Fr} {t : Tr} {W : List (Int × Int)} (h : Zip s C t W) : (items t ++ itemsC C).Nodup := by
  have := whole_perm C t
  rw [h.whole] at this
  exact this.nodup_iff.1 h.nodup
theorem Zip.mem {s : Fo} {C : List Fr} {t : Tr} {W : List (Int × Int)} (h : Zip s C t W) (z : Int) : z ∈ items t ++ itemsC C ↔ z ∈ W.map Prod.fst := by
  have := whole_perm C t
  rw [h.whole] at this
  exact this.mem_iff.symm
theorem Zip.down {s : Fo} {C : List Fr} {y v : Int} {l r : Tr} {W : List (Int × Int)} (h : Zip s C (.nd y v 0 false l r) W) : Zip s (⟨y, v, false, r⟩ :: C) l W ∧ Zip s (⟨y, v, true, l⟩ :: C) r W := by
  obtain ⟨h1, h2, h3, h4, h5⟩ := h
  obtain ⟨x0, x1, x2, x3, x4, x5, x6, x7, x8, x9⟩ := h1
  exact ⟨⟨x8, ⟨x0, x1, x2, x3, x4, x5, x6, x7, x9, h2⟩, h3, h4, h5⟩, ⟨x9, ⟨x0, x1, x2, x3, x4, x5, x6, x7, x8, h2⟩, h3, h4, h5⟩⟩
theorem Zip.upL {s : Fo} {C : List Fr} {y v : Int} {l r : Tr} {W : List (Int × Int)} (h : Zip s (⟨y, v, false, r⟩ :: C) l W) : Zip s C (.nd y v 0 false l r) W := by
  obtain ⟨h1, h2, h3, h4, h5⟩ := h
  obtain ⟨x0, x1, x2, x3, x4, x5, x6, x7, x8, x9⟩ := h2
  exact ⟨⟨x0, x1, x2, x3, x4, x5, x6, x7, h1, x8⟩, x9, h3, h4, h5⟩
theorem Zip.upR {s : Fo} {C : List Fr} {y v : Int} {l r : Tr} {W : List (Int × Int)} (h : Zip s (⟨y, v, true, l⟩ :: C) r W) : Zip s C (.nd y v 0 false l r) W := by
  obtain ⟨h1, h2, h3, h4, h5⟩ := h
  obtain ⟨x0, x1, x2, x3, x4, x5, x6, x7, x8, x9⟩ := h2
  exact ⟨⟨x0, x1, x2, x3, x4, x5, x6, x7, x8, h1⟩, x9, h3, h4, h5⟩
theorem Zip.rotL {s : Fo} {C : List Fr} {x vx p vp : Int} {A B D : Tr} {W : List (Int × Int)} (h : Zip s (⟨p, vp, false, D⟩ :: C) (.nd x vx 0 false A B) W) :
    Zip (rotate s x) C (.nd x vx 0 false A (.nd p vp 0 false B D)) W ∧ ∀ z, z ≠ -1 → z ∉ W.map Prod.fst → rotate s x z = s z := by
  have hl : (up1 ⟨p, vp, false, D⟩ (sq (.nd x vx 0 false A B) 0 false)).length ≤ 1000000 := Nat.le_trans (plugL_len C _) (by have := h.len; rw [← h.whole] at this; exact this)
  obtain ⟨r1, r2, r3, r4⟩ := rotate_left (p := p) h.rep h.repC rfl h.nd hl
  refine ⟨⟨r1, r2, ?_, h.nodup, h.len⟩, fun z hz hz2 => r4 z hz (fun hc => hz2 ((h.mem z).1 hc))⟩
  rw [r3]
  exact h.whole
theorem Zip.rotR {s : Fo} {C : List Fr} {x vx p vp : Int} {A B D : Tr} {W : List (Int × Int)} (h : Zip s (⟨p, vp, true, D⟩ :: C) (.nd x vx 0 false A B) W) :
    Zip (rotate s x) C (.nd x vx 0 false (.nd p vp 0 false D A) B) W ∧ ∀ z, z ≠ -1 → z ∉ W.map Prod.fst → rotate s x z = s z := by
  have hl : (up1 ⟨p, vp, true, D⟩ (sq (.nd x vx 0 false A B) 0 false)).length ≤ 1000000 := Nat.le_trans (plugL_len C _) (by have := h.len; rw [← h.whole] at this; exact this)
  obtain ⟨r1, r2, r3, r4⟩ := rotate_right (p := p) h.rep h.repC rfl h.nd hl
  refine ⟨⟨r1, r2, ?_, h.nodup, h.len⟩, fun z hz hz2 => r4 z hz (fun hc => hz2 ((h.mem z).1 hc))⟩
  rw [r3]
  exact h.whole
theorem Zip.side {s : Fo} {C : List Fr} {f : Fr} {x v a : Int} {t : Bool} {l r : Tr} {W : List (Int × Int)} (h : Zip s (f :: C) (.nd x v a t l r) W) : (s x).up = f.y ∧ (s f.y).up = topOf C ∧ 0 ≤ f.y ∧ side s x = if f.sd = true then 1 else 0 := by
  have hn := h.nd
  obtain ⟨h1, h2, _, _, _⟩ := h
  obtain ⟨x0, x1, _⟩ := h1
  obtain ⟨f0, f1, f2, f3, _⟩ := h2
  have hx : x ∉ items f.sib := fun hc => by
    rw [List.nodup_append] at hn
    exact hn.2.2 x List.mem_cons_self x (List.mem_cons_of_mem _ (List.mem_append_left _ hc)) rfl
  refine ⟨x1, f1, f0, ?_⟩
  unfold Go.Proofs.YtcnmbgijehnchaaW.Splay.side
  rw [x1]
  show (if (s f.y).d1 = x then (1 : Int) else 0) = _
  rw [f3]
  cases f.sd with
  | true => simp [root]
  | false =>
    simp only [Bool.false_eq_true, if_false]
    refine if_neg (fun e => ?_)
    rcases root_mem (t := f.sib) with h | h
    · omega
    · exact hx (by rw [← e]; exact h)
/-- Up to the root, two at a time. -/
def spin (x : Int) : Nat → Fo → Option Fo
  | 0, _ => none
  | k + 1, s => if (s x).up = -1 then some s
    else if (s (s x).up).up = -1 then spin x k (rotate s x)
    else if side s x = side s (s x).up then (if (rotate s (s x).up x).up = -1 then none else spin x k (rotate (rotate s (s x).up) x))
    else (if (rotate s x x).up = -1 then none else spin x k (rotate (rotate s x) x))
theorem spin_ok {x v : Int} : ∀ (n : Nat) (C : List Fr) (s : Fo) (l r : Tr) (W : List (Int × Int)), C.length ≤ n → Zip s C (.nd x v 0 false l r) W →
    ∃ s' l' r', (∀ k, n < k → spin x k s = some s') ∧ Zip s' [] (.nd x v 0 false l' r') W ∧ ∀ z, z ≠ -1 → z ∉ W.map Prod.fst → s' z = s z := by
  intro n
  induction n with
  | zero =>
    intro C s l r W hc h
    cases C with
    | cons f C => simp at hc
    | nil =>
      refine ⟨s, l, r, fun k hk => ?_, h, fun _ _ _ => rfl⟩
      obtain ⟨k, rfl⟩ : ∃ m, k = m + 1 := ⟨k - 1, by omega⟩
      have hu : (s x).up = -1 := h.rep.2.1
      rw [spin, if_pos hu]
  | succ n ih =>
    intro C s l r W hc h
    match C, hc, h with
    | [], _, h =>
      refine ⟨s, l, r, fun k hk => ?_, h, fun _ _ _ => rfl⟩
      obtain ⟨k, rfl⟩ : ∃ m, k = m + 1 := ⟨k - 1, by omega⟩
      have hu : (s x).up = -1 := h.rep.2.1
      rw [spin, if_pos hu]
    | [⟨p, vp, sd, D⟩], _, h =>
      obtain ⟨e1, e2, e3, _⟩ := h.side
      have e1 : (s x).up = p := e1
      have e2 : (s p).up = -1 := e2
      have e3 : 0 ≤ p := e3
      have key : ∀ {l2 r2 : Tr}, Zip (rotate s x) [] (.nd x v 0 false l2 r2) W → (∀ z, z ≠ -1 → z ∉ W.map Prod.fst → rotate s x z = s z) →
          ∃ s' l' r', (∀ k, n + 1 < k → spin x k s = some s') ∧ Zip s' [] (.nd x v 0 false l' r') W ∧ ∀ z, z ≠ -1 → z ∉ W.map Prod.fst → s' z = s z := fun {l2 r2} hz hf => by
        obtain ⟨s', l', r', k1, k2, k3⟩ := ih [] _ l2 r2 W (Nat.zero_le _) hz
        refine ⟨s', l', r', fun k hk => ?_, k2, fun z a b => (k3 z a b).trans (hf z a b)⟩
        obtain ⟨k, rfl⟩ : ∃ m, k = m + 1 := ⟨k - 1, by omega⟩
        rw [spin, e1, if_neg (by omega), if_pos e2]
        exact k1 k (by omega)
      cases sd with
      | false => exact key h.rotL.1 h.rotL.2
      | true => exact key h.rotR.1 h.rotR.2
    | ⟨p, vp, sd, D⟩ :: ⟨g, vg, sg, E⟩ :: C, hc, h =>
      simp only [List.length_cons] at hc
      obtain ⟨e1, e2, e3, e4⟩ := h.side
      have e1 : (s x).up = p := e1
      have e2 : (s p).up = g := e2
      have e3 : 0 ≤ p := e3
      have e4 : side s x = if sd = true then 1 else 0 := e4
      have g0 : 0 ≤ g := h.repC.2.2.2.2.2.2.2.2.2.1
      have e5 : side s p = if sg = true then 1 else 0 := by
        cases sd with
        | false => exact h.upL.side.2.2.2
        | true => exact h.upR.side.2.2.2
      have fin : ∀ {s1 : Fo} {C1 : List Fr} {l2 r2 : Tr}, C1.length ≤ n → Zip s1 C1 (.nd x v 0 false l2 r2) W → (∀ z, z ≠ -1 → z ∉ W.map Prod.fst → s1 z = s z) → (∀ k, spin x (k + 1) s = spin x k s1) →
          ∃ s' l' r', (∀ k, n + 1 < k → spin x k s = some s') ∧ Zip s' [] (.nd x v 0 false l' r') W ∧ ∀ z, z ≠ -1 → z ∉ W.map Prod.fst → s' z = s z := fun {s1 C1 l2 r2} hc1 hz hf hk => by
        obtain ⟨s', l', r', k1, k2, k3⟩ := ih C1 s1 l2 r2 W hc1 hz
        refine ⟨s', l', r', fun k hk2 => ?_, k2, fun z a b => (k3 z a b).trans (hf z a b)⟩
        obtain ⟨k, rfl⟩ : ∃ m, k = m + 1 := ⟨k - 1, by omega⟩
        rw [hk]
        exact k1 k (by omega)
      have zz : side s x = side s p → ∀ {q : Int}, (rotate s p x).up = q → q ≠ -1 → ∀ k, spin x (k + 1) s = spin x k (rotate (rotate s p) x) := fun hs {q} hq hq1 k => by
        rw [spin, e1, if_neg (by omega), e2, if_neg (by omega), if_pos hs, hq, if_neg hq1]
      have zg : side s x ≠ side s p → ∀ {q : Int}, (rotate s x x).up = q → q ≠ -1 → ∀ k, spin x (k + 1) s = spin x k (rotate (rotate s x) x) := fun hs {q} hq hq1 k => by
        rw [spin, e1, if_neg (by omega), e2, if_neg (by omega), if_neg hs, hq, if_neg hq1]
      cases sd with
      | false =>
        cases sg with
        | false =>
          obtain ⟨z1, f1⟩ := h.upL.rotL
          have z2 := z1.down.1
          obtain ⟨z3, f2⟩ := z2.rotL
          exact fin (by omega) z3 (fun z a b => (f2 z a b).trans (f1 z a b)) (zz (by rw [e4, e5]) z2.side.1 (by show p ≠ -1; omega))
        | true =>
          obtain ⟨z1, f1⟩ := h.rotL
          obtain ⟨z3, f2⟩ := z1.rotR
          exact fin (by omega) z3 (fun z a b => (f2 z a b).trans (f1 z a b)) (zg (by rw [e4, e5]; decide) z1.side.1 (by show g ≠ -1; omega))
      | true =>
        cases sg with
        | true =>
          obtain ⟨z1, f1⟩ := h.upR.rotR
          have z2 := z1.down.2
          obtain ⟨z3, f2⟩ := z2.rotR
          exact fin (by omega) z3 (fun z a b => (f2 z a b).trans (f1 z a b)) (zz (by rw [e4, e5]) z2.side.1 (by show p ≠ -1; omega))
        | false =>
          obtain ⟨z1, f1⟩ := h.rotR
          obtain ⟨z3, f2⟩ := z1.rotL
          exact fin (by omega) z3 (fun z a b => (f2 z a b).trans (f1 z a b)) (zg (by rw [e4, e5]; decide) z1.side.1 (by show g ≠ -1; omega))

/-- From a node up to the root. -/
def pathN (s : Fo) : Nat → Int → List Int → Option (List Int)
  | 0, _, _ => none
  | k + 1, u, w => if u = -1 then some w else pathN s k (s u).up (w ++ [u])
def splayN (k : Nat) (s : Fo) (x : Int) : Option Fo := (pathN s k (s x).up [x]).bind fun w => if w.length ≤ 1000000 then spin x k (w.reverse.foldl push s) else none
/-- The way from a tree's root down to an item. -/
inductive DP : Tr → Int → List Int → Prop where
  | here {x v a : Int} {t : Bool} {l r : Tr} : DP (.nd x v a t l r) x [x]
  | left {x y v a : Int} {t : Bool} {l r : Tr} {w : List Int} : DP l x w → DP (.nd y v a t l r) x (y :: w)
  | right {x y v a : Int} {t : Bool} {l r : Tr} {w : List Int} : DP r x w → DP (.nd y v a t l r) x (y :: w)
theorem DP.some : ∀ {t : Tr} {x : Int}, x ∈ items t → ∃ w, DP t x w
  | .nil, _, h => by cases h
  | .nd y v a t l r, x, h => by
    rcases List.mem_cons.1 h with rfl | h
    · exact ⟨_, .here⟩
    · rcases List.mem_append.1 h with h | h
      · obtain ⟨w, hw⟩ := DP.some h
        exact ⟨_, .left hw⟩
      · obtain ⟨w, hw⟩ := DP.some h
        exact ⟨_, .right hw⟩
theorem DP.lay {t : Tr} {x : Int} {w : List Int} (h : DP t x w) (a : Int) (u : Bool) : DP (layT a u t) x w := by
  cases h with
  | here => exact .here
  | left h =>
    cases u
    · exact .left h
    · exact .right h
  | right h =>
    cases u
    · exact .right h
    · exact .left h
theorem DP.pos {t : Tr} {x : Int} {w : List Int} (h : DP t x w) : 1 ≤ w.length := by
  cases h <;> simp
theorem DP.len {t : Tr} {x : Int} {w : List Int} (h : DP t x w) : w.length ≤ (items t).length := by
  induction h with
  | here => simp [items]
  | left h ih => simp [items]; omega
  | right h ih => simp [items]; omega
theorem path_dp {s : Fo} {t : Tr} {x : Int} {w : List Int} (h : DP t x w) : ∀ {u p : Int}, Rep s t u p → ∀ k, pathN s (w.length - 1 + k) (s x).up [x] = pathN s k u w.reverse := by
  induction h with
  | here =>
    intro u p hr k
    have e := hr.2.1
    rw [e]
    simp
  | @left x y v a t l r w h ih =>
    intro u p hr k
    obtain ⟨h0, h1, _, _, _, _, _, _, h8, _⟩ := hr
    have hp := h.pos
    have e := ih h8 (k + 1)
    rw [show (y :: w).length - 1 + k = w.length - 1 + (k + 1) by rw [List.length_cons]; omega, e, pathN, if_neg (by omega), h1, List.reverse_cons]
  | @right x y v a t l r w h ih =>
    intro u p hr k
    obtain ⟨h0, h1, _, _, _, _, _, _, _, h9⟩ := hr
    have hp := h.pos
    have e := ih h9 (k + 1)
    rw [show (y :: w).length - 1 + k = w.length - 1 + (k + 1) by rw [List.length_cons]; omega, e, pathN, if_neg (by omega), h1, List.reverse_cons]
theorem Zip.push {s : Fo} {C : List Fr} {y v a : Int} {t : Bool} {l r : Tr} {W : List (Int × Int)} (h : Zip s C (.nd y v a t l r) W) :
    Zip (push s y) C (.nd y v 0 false (layT a t l) (layT a t r)) W ∧ ∀ z, z ∉ W.map Prod.fst → push s y z = s z := by
  have hn := h.nd
  obtain ⟨n1, n2, n3⟩ := List.nodup_append.1 hn
  have hf : ∀ z, z ∉ items (.nd y v a t l r) → Go.Proofs.YtcnmbgijehnchaaW.Splay.push s y z = s z := fun z hz => push_ne h.rep hz
  refine ⟨⟨h.rep.push n1, ?_, ?_, h.nodup, h.len⟩, fun z hz => hf z (fun hc => hz ((h.mem z).1 (List.mem_append_left _ hc)))⟩
  · rw [sq_push]
    exact h.repC.frame (fun z hz => hf z (fun hc => n3 z hc z hz rfl))
  · rw [sq_push]
    exact h.whole
theorem push_path {x : Int} {W : List (Int × Int)} : ∀ (w : List Int) (t : Tr) (C : List Fr) (s : Fo), DP t x w → Zip s C t W →
    ∃ C' v l r, Zip (w.foldl push s) C' (.nd x v 0 false l r) W ∧ ∀ z, z ∉ W.map Prod.fst → w.foldl push s z = s z
  | [], t, C, s, hd, _ => by have := hd.pos; simp at this
  | y :: w, t, C, s, hd, h => by
    cases hd with
    | here =>
      obtain ⟨h1, h2⟩ := h.push
      exact ⟨C, _, _, _, h1, h2⟩
    | left hd =>
      obtain ⟨h1, h2⟩ := h.push
      obtain ⟨C', v', l', r', k1, k2⟩ := push_path w _ _ _ (hd.lay _ _) h1.down.1
      exact ⟨C', v', l', r', k1, fun z hz => (k2 z hz).trans (h2 z hz)⟩
    | right hd =>
      obtain ⟨h1, h2⟩ := h.push
      obtain ⟨C', v', l', r', k1, k2⟩ := push_path w _ _ _ (hd.lay _ _) h1.down.2
      exact ⟨C', v', l', r', k1, fun z hz => (k2 z hz).trans (h2 z hz)⟩
/-- An item is made the root of its tree: the row is as it was. -/
theorem splay_ok {s : Fo} {t : Tr} {x : Int} {W : List (Int × Int)} (h : Zip s [] t W) (hx : x ∈ W.map Prod.fst) :
    ∃ s' v l r, (∃ K, ∀ k, K ≤ k → splayN k s x = some s') ∧ Zip s' [] (.nd x v 0 false l r) W ∧ ∀ z, z ≠ -1 → z ∉ W.map Prod.fst → s' z = s z := by
  have hx' : x ∈ items t := by
    have := (h.mem x).2 hx
    simpa [itemsC] using this
  obtain ⟨w, hw⟩ := DP.some hx'
  obtain ⟨C, v, l, r, h1, h2⟩ := push_path w t [] s hw h
  obtain ⟨s', l', r', k1, k2, k3⟩ := spin_ok C.length C _ l r W (Nat.le_refl _) h1
  refine ⟨s', v, l', r', ⟨w.length + C.length + 1, fun k hk => ?_⟩, k2, fun z a b => (k3 z a b).trans (h2 z b)⟩
  have hp := hw.pos
  have e := path_dp hw h.rep (k - (w.length - 1))
  rw [show w.length - 1 + (k - (w.length - 1)) = k by omega] at e
  obtain ⟨m, hm⟩ : ∃ m, k - (w.length - 1) = m + 1 := ⟨k - (w.length - 1) - 1, by omega⟩
  rw [hm] at e
  have e2 : pathN s k (s x).up [x] = some w.reverse := by
    rw [e]
    exact if_pos rfl
  have hl : w.reverse.length ≤ 1000000 := by
    have h3 := (sq_perm t 0 false).length_eq
    have h4 : sq t 0 false = W := h.whole
    have h5 := hw.len
    have h6 := h.len
    rw [List.length_map, h4] at h3
    rw [List.length_reverse]
    omega
  unfold splayN
  rw [e2, Option.bind_some, if_pos hl, List.reverse_reverse]
  exact k1 k (by omega)

theorem Zip.frame {s s' : Fo} {t : Tr} {W : List (Int × Int)} (h : Zip s [] t W) (hs : ∀ z ∈ W.map Prod.fst, s' z = s z) : Zip s' [] t W :=
  ⟨h.rep.frame (fun z hz => hs z ((h.mem z).1 (List.mem_append_left _ hz))), trivial, h.whole, h.nodup, h.len⟩
/-- A forest: all of its rows. -/
structure Fs (s : Fo) (N : Int) (Ws : List (List (Int × Int))) : Prop where
  tree : ∀ W ∈ Ws, ∃ t, Zip s [] t W
  ne : ∀ W ∈ Ws, W ≠ []
  nod : (Ws.flatten.map Prod.fst).Nodup
  cover : ∀ x, x ∈ Ws.flatten.map Prod.fst ↔ 0 ≤ x ∧ x < N
theorem Fs.perm {s : Fo} {N : Int} {Ws Vs : List (List (Int × Int))} (h : Fs s N Ws) (hp : Ws.Perm Vs) : Fs s N Vs := by
  have hf : (Ws.flatten.map Prod.fst).Perm (Vs.flatten.map Prod.fst) := hp.flatten.map _
  exact ⟨fun W hW => h.tree W (hp.mem_iff.2 hW), fun W hW => h.ne W (hp.mem_iff.2 hW), hf.nodup_iff.1 h.nod, fun x => hf.mem_iff.symm.trans (h.cover x)⟩
theorem Fs.step {s s' : Fo} {N : Int} {W : List (Int × Int)} {Ws Vs : List (List (Int × Int))} (h : Fs s N (W :: Ws)) (ht : ∀ V ∈ Vs, ∃ t, Zip s' [] t V) (hne : ∀ V ∈ Vs, V ≠ []) (hp : (Vs.flatten.map Prod.fst).Perm (W.map Prod.fst)) (hf : ∀ z, z ≠ -1 → z ∉ W.map Prod.fst → s' z = s z) : Fs s' N (Vs ++ Ws) := by
  have hn := h.nod
  rw [List.flatten_cons, List.map_append] at hn
  have hperm : ((Vs ++ Ws).flatten.map Prod.fst).Perm ((W :: Ws).flatten.map Prod.fst) := by
    rw [List.flatten_append, List.flatten_cons, List.map_append, List.map_append]
    exact hp.append (List.Perm.refl _)
  refine ⟨fun V hV => ?_, fun V hV => ?_, hperm.nodup_iff.2 h.nod, fun x => hperm.mem_iff.trans (h.cover x)⟩
  · rcases List.mem_append.1 hV with hV | hV
    · exact ht V hV
    · obtain ⟨t, hz⟩ := h.tree V (List.mem_cons_of_mem _ hV)
      refine ⟨t, hz.frame (fun z hzV => hf z ?_ (fun hzW => ?_))⟩
      · have hm := (h.cover z).1 (by
          rw [List.flatten_cons, List.map_append]
          refine List.mem_append_right _ ?_
          obtain ⟨y, hy, rfl⟩ := List.mem_map.1 hzV
          exact List.mem_map.2 ⟨y, List.mem_flatten.2 ⟨V, hV, hy⟩, rfl⟩)
        omega
      · refine (List.nodup_append.1 hn).2.2 z hzW z ?_ rfl
        obtain ⟨y, hy, rfl⟩ := List.mem_map.1 hzV
        exact List.mem_map.2 ⟨y, List.mem_flatten.2 ⟨V, hV, hy⟩, rfl⟩
  · rcases List.mem_append.1 hV with hV | hV
    · exact hne V hV
    · exact h.ne V (List.mem_cons_of_mem _ hV)
/-- A row that stays as it is, whatever tree it lies in. -/
theorem Fs.keep {s s' : Fo} {N : Int} {W : List (Int × Int)} {Ws : List (List (Int × Int))} {t : Tr} (h : Fs s N (W :: Ws)) (ht : Zip s' [] t W) (hf : ∀ z, z ≠ -1 → z ∉ W.map Prod.fst → s' z = s z) : Fs s' N (W :: Ws) :=
  h.step (Vs := [W]) (fun V hV => by rw [List.mem_singleton] at hV; subst hV; exact ⟨t, ht⟩) (fun V hV => by rw [List.mem_singleton] at hV; subst hV; exact h.ne V List.mem_cons_self) (by simp) hf
/-- A turned row. -/
theorem turn_ok {s : Fo} {t : Tr} {W : List (Int × Int)} (h : Zip s [] t W) : Zip (lay s (root t) 0 true) [] (layT 0 true t) W.reverse := by
  have hn := h.nd
  obtain ⟨n1, _, _⟩ := List.nodup_append.1 hn
  have hw : sq t 0 false = W := h.whole
  have e : sq (layT 0 true t) 0 false = W.reverse := by
    rw [sq_layT, ← hw]
    exact sq_turn t 0 false
  refine ⟨Rep.lay h.rep n1, trivial, e, ?_, by rw [List.length_reverse]; exact h.len⟩
  rw [List.map_reverse]
  exact (List.reverse_perm _).nodup_iff.2 h.nodup
/-- A row cut at the root. -/
def splitN (s : Fo) (x : Int) : Fo := if (s x).d0 = -1 then s else pull (upd (upd s (s x).d0 { s (s x).d0 with up := -1 }) x { upd s (s x).d0 { s (s x).d0 with up := -1 } x with d0 := -1 }) x
theorem split_ok {s : Fo} {x v : Int} {l r : Tr} {W : List (Int × Int)} (h : Zip s [] (.nd x v 0 false l r) W) :
    (l = .nil ∧ splitN s x = s) ∨ (l ≠ .nil ∧ Zip (splitN s x) [] l (sq l 0 false) ∧ Zip (splitN s x) [] (.nd x v 0 false .nil r) ((x, wrap64 (v + 0)) :: sq r 0 false) ∧ ∀ z, z ≠ -1 → z ∉ W.map Prod.fst → splitN s x z = s z) := by
  have hn := h.nd
  obtain ⟨n1, _, _⟩ := List.nodup_append.1 hn
  have hmem := fun z => h.mem z
  have hw : sq l 0 false ++ (x, wrap64 (v + 0)) :: sq r 0 false = W := h.whole
  have hnw := h.nodup
  have hlw := h.len
  obtain ⟨x0, x1, x2, x3, x4, x5, x6, x7, x8, x9⟩ := h.rep
  rw [← hw, List.map_append, List.map_cons] at hnw
  rw [← hw, List.length_append, List.length_cons] at hlw
  obtain ⟨m1, m2, _⟩ := List.nodup_append.1 hnw
  simp only [items, List.nodup_cons, List.mem_append, not_or] at n1
  obtain ⟨⟨nl, nr⟩, hlr⟩ := n1
  obtain ⟨nl1, nr1, nlr⟩ := List.nodup_append.1 hlr
  cases hl : l with
  | nil =>
    left
    refine ⟨rfl, ?_⟩
    unfold splitN
    rw [x2, hl]
    exact if_pos rfl
  | nd y vy ay ty ll lr =>
    right
    rw [← hl]
    have hy : root l = y := by rw [hl]; rfl
    have hyl : y ∈ items l := by rw [hl]; exact List.mem_cons_self
    have y0 : 0 ≤ y := x8.nonneg y hyl
    have hyx : y ≠ x := fun e => nl (by rw [← e]; exact hyl)
    have x2 : (s x).d0 = y := by rw [x2, hy]
    obtain ⟨u, hu⟩ : ∃ u, upd (upd s y { s y with up := -1 }) x { upd s y { s y with up := -1 } x with d0 := -1 } = u := ⟨_, rfl⟩
    have hs : splitN s x = pull u x := by
      unfold splitN
      rw [x2, if_neg (by omega), hu]
    have ux : u x = { s x with d0 := -1 } := by rw [← hu, upd_same, upd_ne (fun e => hyx e.symm)]
    have uy : u y = { s y with up := -1 } := by rw [← hu, upd_ne hyx, upd_same]
    have uz : ∀ {z : Int}, z ≠ x → z ≠ y → u z = s z := fun {z} h1 h2 => by rw [← hu, upd_ne h1, upd_ne h2]
    have RL : Rep u l (-1) 0 := Rep.reup x8 nl1 (fun z hz hzr => uz (fun e => nl (by rw [← e]; exact hz)) (by rw [← hy]; exact hzr)) (fun _ => by rw [hy]; exact uy)
    have RR : Rep u r x 0 := x9.frame (fun z hz => uz (fun e => nr (by rw [← e]; exact hz)) (fun e => nlr y hyl z hz e.symm))
    have wv : wrap64 v = v := by have h := x7.2.1.1; rw [x4] at h; exact h
    have uv : (u x).v = v := by rw [ux]; exact x4
    obtain ⟨ag, sm⟩ := pull_ag (s := u) (x := x) (l := .nil) (r := r) (u1 := x) (u2 := x) (by rw [ux]; rfl) (by rw [ux]; exact x3) (by rw [uv]; exact wv) trivial RR (by simp [items]) nr (by
      show 0 + (sq r 0 false).length < 1000000
      omega)
    rw [uv] at ag
    have RX : Rep (pull u x) (.nd x v 0 false .nil r) (-1) 0 := Rep.mk x0 (by rw [sm.1, ux]; exact x1) (by rw [sm.2.1, ux]; rfl) (by rw [sm.2.2.1, ux]; exact x3) (by rw [sm.2.2.2.1]; exact uv) (by rw [sm.2.2.2.2.1, ux]; exact x5) (by rw [sm.2.2.2.2.2, ux]; exact x6) (by rw [wrap0 wv]; exact ag) trivial (RR.frame (fun z hz => pull_ne (fun e => nr (by rw [← e]; exact hz))))
    rw [hs]
    refine ⟨by rw [hl]; simp, ⟨RL.frame (fun z hz => pull_ne (fun e => nl (by rw [← e]; exact hz))), trivial, rfl, m1, by omega⟩, ⟨RX, trivial, rfl, m2, by rw [List.length_cons]; omega⟩, fun z hz1 hz2 => ?_⟩
    have hz3 : z ∉ items (.nd x v 0 false l r) := fun hc => hz2 ((hmem z).1 (List.mem_append_left _ hc))
    simp only [items, List.mem_cons, List.mem_append, not_or] at hz3
    rw [pull_ne hz3.1]
    exact uz hz3.1 (fun e => hz3.2.1 (by rw [e]; exact hyl))

theorem Zip.top {s : Fo} {W : List (Int × Int)} : ∀ {C : List Fr} {t : Tr}, Zip s C t W → ∃ t', Zip s [] t' W
  | [], t, h => ⟨t, h⟩
  | ⟨y, v, false, D⟩ :: C, t, h => h.upL.top
  | ⟨y, v, true, D⟩ :: C, t, h => h.upR.top
theorem key_uniq {y a b : Int} : ∀ {A A' B B' : List (Int × Int)}, A ++ (y, a) :: B = A' ++ (y, b) :: B' → ((A ++ (y, a) :: B).map Prod.fst).Nodup → A = A' ∧ a = b ∧ B = B'
  | [], [], B, B', h, _ => by
    obtain ⟨h1, h2⟩ := List.cons.inj h
    exact ⟨rfl, congrArg Prod.snd h1, h2⟩
  | [], q :: A', B, B', h, hn => by
    obtain ⟨h1, h2⟩ := List.cons.inj h
    have hn' : y ∉ B.map Prod.fst := (List.nodup_cons.1 hn).1
    exact absurd (by rw [h2]; simp) hn'
  | q :: A, [], B, B', h, hn => by
    obtain ⟨h1, h2⟩ := List.cons.inj h
    rw [List.cons_append, List.map_cons, List.nodup_cons, h1] at hn
    exact absurd (by simp) hn.1
  | q :: A, q' :: A', B, B', h, hn => by
    obtain ⟨h1, h2⟩ := List.cons.inj h
    rw [List.cons_append, List.map_cons, List.nodup_cons] at hn
    obtain ⟨e1, e2, e3⟩ := key_uniq h2 hn.2
    exact ⟨by rw [h1, e1], e2, e3⟩
theorem sq_nil : ∀ {t : Tr} {p : Int} {u : Bool}, sq t p u = [] → t = .nil
  | .nil, _, _, _ => rfl
  | .nd _ _ _ _ _ _, _, u, h => by cases u <;> simp [sq] at h
theorem items_layT_len (a : Int) (u : Bool) : ∀ (t : Tr), (items (layT a u t)).length = (items t).length
  | .nil => rfl
  | .nd _ _ _ _ _ _ => by cases u <;> simp [layT, items] <;> omega
theorem Zip.mid {s : Fo} {x v : Int} {l r : Tr} {W : List (Int × Int)} (h : Zip s [] (.nd x v 0 false l r) W) : W = sq l 0 false ++ (x, wrap64 (v + 0)) :: sq r 0 false := h.whole.symm
theorem Zip.wv {s : Fo} {C : List Fr} {x v : Int} {l r : Tr} {W : List (Int × Int)} (h : Zip s C (.nd x v 0 false l r) W) : wrap64 (v + 0) = v ∧ (s x).v = v := by
  have h1 := h.rep.2.2.2.2.1
  have h2 := h.rep.2.2.2.2.2.2.2.1.2.1.1
  rw [h1] at h2
  exact ⟨wrap0 h2, h1⟩
/-- To the end of a row. -/
def endLoop (sd : Int) : Nat → Fo → Int → Option (Fo × Int)
  | 0, _, _ => none
  | k + 1, s, x => if dn (s x) sd = -1 then some (s, x) else endLoop sd k (push s (dn (s x) sd)) (dn (s x) sd)
def endN (k : Nat) (s : Fo) (x sd : Int) : Option (Fo × Int) := (endLoop sd k s x).bind fun p => (splayN k p.1 p.2).bind fun s' => some (s', p.2)
theorem end_last {W : List (Int × Int)} : ∀ (n : Nat) (C : List Fr) (s : Fo) (x v : Int) (l r : Tr), (items r).length ≤ n → Zip s C (.nd x v 0 false l r) W →
    ∃ s' y vy C' l', (∀ k, n < k → endLoop 1 k s x = some (s', y)) ∧ Zip s' C' (.nd y vy 0 false l' .nil) W ∧ (∃ L, sq (.nd x v 0 false l r) 0 false = L ++ [(y, wrap64 (vy + 0))]) ∧ ∀ z, z ∉ W.map Prod.fst → s' z = s z := by
  intro n
  induction n with
  | zero =>
    intro C s x v l r hl h
    cases r with
    | nd _ _ _ _ _ _ => simp [items] at hl
    | nil =>
      refine ⟨s, x, v, C, l, fun k hk => ?_, h, ⟨sq l 0 false, rfl⟩, fun _ _ => rfl⟩
      obtain ⟨k, rfl⟩ : ∃ m, k = m + 1 := ⟨k - 1, by omega⟩
      have e : dn (s x) 1 = -1 := h.rep.2.2.2.1
      rw [endLoop, if_pos e]
  | succ n ih =>
    intro C s x v l r hl h
    cases r with
    | nil =>
      refine ⟨s, x, v, C, l, fun k hk => ?_, h, ⟨sq l 0 false, rfl⟩, fun _ _ => rfl⟩
      obtain ⟨k, rfl⟩ : ∃ m, k = m + 1 := ⟨k - 1, by omega⟩
      have e : dn (s x) 1 = -1 := h.rep.2.2.2.1
      rw [endLoop, if_pos e]
    | nd c vc ac tc cl cr =>
      have e : dn (s x) 1 = c := h.rep.2.2.2.1
      have hz := h.down.2
      have c0 : 0 ≤ c := hz.rep.1
      obtain ⟨h1, h2⟩ := hz.push
      have hlen : (items (layT ac tc cr)).length ≤ n := by
        rw [items_layT_len]
        simp only [items, List.length_cons, List.length_append] at hl
        omega
      obtain ⟨s', y, vy, C', l', k1, k2, ⟨L, k3⟩, k4⟩ := ih _ _ c vc _ _ hlen h1
      rw [sq_push] at k3
      refine ⟨s', y, vy, C', l', fun k hk => ?_, k2, ⟨sq l 0 false ++ (x, wrap64 (v + 0)) :: L, ?_⟩, fun z hz => (k4 z hz).trans (h2 z hz)⟩
      · obtain ⟨k, rfl⟩ : ∃ m, k = m + 1 := ⟨k - 1, by omega⟩
        rw [endLoop, e, if_neg (by omega)]
        exact k1 k (by omega)
      · show sq l 0 false ++ (x, wrap64 (v + 0)) :: sq (.nd c vc ac tc cl cr) 0 false = _
        rw [k3, List.append_assoc, List.cons_append]
theorem end_first {W : List (Int × Int)} : ∀ (n : Nat) (C : List Fr) (s : Fo) (x v : Int) (l r : Tr), (items l).length ≤ n → Zip s C (.nd x v 0 false l r) W →
    ∃ s' y vy C' r', (∀ k, n < k → endLoop 0 k s x = some (s', y)) ∧ Zip s' C' (.nd y vy 0 false .nil r') W ∧ (∃ L, sq (.nd x v 0 false l r) 0 false = (y, wrap64 (vy + 0)) :: L) ∧ ∀ z, z ∉ W.map Prod.fst → s' z = s z := by
  intro n
  induction n with
  | zero =>
    intro C s x v l r hl h
    cases l with
    | nd _ _ _ _ _ _ => simp [items] at hl
    | nil =>
      refine ⟨s, x, v, C, r, fun k hk => ?_, h, ⟨sq r 0 false, rfl⟩, fun _ _ => rfl⟩
      obtain ⟨k, rfl⟩ : ∃ m, k = m + 1 := ⟨k - 1, by omega⟩
      have e : dn (s x) 0 = -1 := h.rep.2.2.1
      rw [endLoop, if_pos e]
  | succ n ih =>
    intro C s x v l r hl h
    cases l with
    | nil =>
      refine ⟨s, x, v, C, r, fun k hk => ?_, h, ⟨sq r 0 false, rfl⟩, fun _ _ => rfl⟩
      obtain ⟨k, rfl⟩ : ∃ m, k = m + 1 := ⟨k - 1, by omega⟩
      have e : dn (s x) 0 = -1 := h.rep.2.2.1
      rw [endLoop, if_pos e]
    | nd c vc ac tc cl cr =>
      have e : dn (s x) 0 = c := h.rep.2.2.1
      have hz := h.down.1
      have c0 : 0 ≤ c := hz.rep.1
      obtain ⟨h1, h2⟩ := hz.push
      have hlen : (items (layT ac tc cl)).length ≤ n := by
        rw [items_layT_len]
        simp only [items, List.length_cons, List.length_append] at hl
        omega
      obtain ⟨s', y, vy, C', l', k1, k2, ⟨L, k3⟩, k4⟩ := ih _ _ c vc _ _ hlen h1
      rw [sq_push] at k3
      refine ⟨s', y, vy, C', l', fun k hk => ?_, k2, ⟨L ++ (x, wrap64 (v + 0)) :: sq r 0 false, ?_⟩, fun z hz => (k4 z hz).trans (h2 z hz)⟩
      · obtain ⟨k, rfl⟩ : ∃ m, k = m + 1 := ⟨k - 1, by omega⟩
        rw [endLoop, e, if_neg (by omega)]
        exact k1 k (by omega)
      · show sq (.nd c vc ac tc cl cr) 0 false ++ (x, wrap64 (v + 0)) :: sq r 0 false = _
        rw [k3, List.cons_append]
/-- The last item of a row is made its root. -/
theorem last_ok {s : Fo} {x v : Int} {l r : Tr} {W : List (Int × Int)} (h : Zip s [] (.nd x v 0 false l r) W) :
    ∃ s' y vy l', (∃ K, ∀ k, K ≤ k → endN k s x 1 = some (s', y)) ∧ Zip s' [] (.nd y vy 0 false l' .nil) W ∧ W = sq l' 0 false ++ [(y, vy)] ∧ ∀ z, z ≠ -1 → z ∉ W.map Prod.fst → s' z = s z := by
  obtain ⟨s1, y, vy, C, l1, k1, k2, ⟨L, k3⟩, k4⟩ := end_last (items r).length [] s x v l r (Nat.le_refl _) h
  obtain ⟨t, ht⟩ := k2.top
  have hy : y ∈ W.map Prod.fst := (k2.mem y).1 (List.mem_append_left _ List.mem_cons_self)
  obtain ⟨s', v2, l2, r2, ⟨K, j1⟩, j2, j3⟩ := splay_ok ht hy
  have e1 : sq l2 0 false ++ (y, wrap64 (v2 + 0)) :: sq r2 0 false = L ++ (y, wrap64 (vy + 0)) :: [] := by
    rw [← k3]
    exact j2.whole.trans h.whole.symm
  have hn : ((sq l2 0 false ++ (y, wrap64 (v2 + 0)) :: sq r2 0 false).map Prod.fst).Nodup := by
    have e : sq l2 0 false ++ (y, wrap64 (v2 + 0)) :: sq r2 0 false = W := j2.whole
    rw [e]
    exact h.nodup
  obtain ⟨_, _, e4⟩ := key_uniq e1 hn
  have e5 := sq_nil e4
  subst e5
  refine ⟨s', y, v2, l2, ⟨(items r).length + 1 + K, fun k hk => ?_⟩, j2, ?_, fun z a b => (j3 z a b).trans (k4 z b)⟩
  · unfold endN
    rw [k1 k (by omega), Option.bind_some, j1 k (by omega)]
    rfl
  · have := j2.mid
    rw [j2.wv.1] at this
    exact this
theorem first_ok {s : Fo} {x v : Int} {l r : Tr} {W : List (Int × Int)} (h : Zip s [] (.nd x v 0 false l r) W) :
    ∃ s' y vy r', (∃ K, ∀ k, K ≤ k → endN k s x 0 = some (s', y)) ∧ Zip s' [] (.nd y vy 0 false .nil r') W ∧ W = (y, vy) :: sq r' 0 false ∧ ∀ z, z ≠ -1 → z ∉ W.map Prod.fst → s' z = s z := by
  obtain ⟨s1, y, vy, C, l1, k1, k2, ⟨L, k3⟩, k4⟩ := end_first (items l).length [] s x v l r (Nat.le_refl _) h
  obtain ⟨t, ht⟩ := k2.top
  have hy : y ∈ W.map Prod.fst := (k2.mem y).1 (List.mem_append_left _ List.mem_cons_self)
  obtain ⟨s', v2, l2, r2, ⟨K, j1⟩, j2, j3⟩ := splay_ok ht hy
  have e1 : sq l2 0 false ++ (y, wrap64 (v2 + 0)) :: sq r2 0 false = [] ++ (y, wrap64 (vy + 0)) :: L := by
    rw [List.nil_append, ← k3]
    exact j2.whole.trans h.whole.symm
  have hn : ((sq l2 0 false ++ (y, wrap64 (v2 + 0)) :: sq r2 0 false).map Prod.fst).Nodup := by
    have e : sq l2 0 false ++ (y, wrap64 (v2 + 0)) :: sq r2 0 false = W := j2.whole
    rw [e]
    exact h.nodup
  obtain ⟨e4, _, _⟩ := key_uniq e1 hn
  have e5 := sq_nil e4
  subst e5
  refine ⟨s', y, v2, r2, ⟨(items l).length + 1 + K, fun k hk => ?_⟩, j2, ?_, fun z a b => (j3 z a b).trans (k4 z b)⟩
  · unfold endN
    rw [k1 k (by omega), Option.bind_some, j1 k (by omega)]
    rfl
  · have := j2.mid
    rw [j2.wv.1] at this
    exact this

/-- Two rows joined. -/
def joinN (k : Nat) (s : Fo) (a b : Int) : Option (Fo × Int) :=
  if a = b then some (s, 5) else (splayN k s a).bind fun s1 => (splayN k s1 b).bind fun s2 => if (s2 a).up = -1 then (endN k s2 a 1).bind fun p => (endN k p.1 b 0).bind fun q => some (pull (hang q.1 p.2 q.2 0) q.2, 0) else some (s2, 5)
theorem Zip.root_up {s : Fo} {x v : Int} {l r : Tr} {W : List (Int × Int)} (h : Zip s [] (.nd x v 0 false l r) W) : (s x).up = -1 := h.rep.2.1
theorem up_in {s : Fo} : ∀ {t : Tr} {u p z : Int}, Rep s t u p → z ∈ items t → z ≠ root t → 0 ≤ (s z).up
  | .nil, _, _, _, _, h, _ => by cases h
  | .nd x v a t l r, u, p, z, h, hz, hne => by
    obtain ⟨h0, h1, h2, h3, h4, h5, h6, h7, h8, h9⟩ := h
    rcases List.mem_cons.1 hz with e | hz
    · exact absurd e hne
    · rcases List.mem_append.1 hz with hz | hz
      · by_cases c : z = root l
        · subst c
          cases hl : l with
          | nil => rw [hl] at hz; cases hz
          | nd y vy ay ty ll lr =>
            rw [hl] at h8
            have : (s y).up = x := h8.2.1
            show 0 ≤ (s y).up
            omega
        · exact up_in h8 hz c
      · by_cases c : z = root r
        · subst c
          cases hr : r with
          | nil => rw [hr] at hz; cases hz
          | nd y vy ay ty ll lr =>
            rw [hr] at h9
            have : (s y).up = x := h9.2.1
            show 0 ≤ (s y).up
            omega
        · exact up_in h9 hz c
/-- A whole tree hung below the first item of another one. -/
theorem hang_ok {s : Fo} {a va b vb : Int} {l r : Tr} {Wa Wb : List (Int × Int)} (ha : Zip s [] (.nd a va 0 false l .nil) Wa) (hb : Zip s [] (.nd b vb 0 false .nil r) Wb) (hn : ((Wa ++ Wb).map Prod.fst).Nodup) (hl : (Wa ++ Wb).length ≤ 1000000) :
    Zip (pull (hang s a b 0) b) [] (.nd b vb 0 false (.nd a va 0 false l .nil) r) (Wa ++ Wb) ∧ ∀ z, z ∉ (Wa ++ Wb).map Prod.fst → pull (hang s a b 0) b z = s z := by
  rw [List.map_append] at hn
  obtain ⟨nWa, nWb, nab⟩ := List.nodup_append.1 hn
  have hA : ∀ z ∈ items (.nd a va 0 false l .nil), z ∈ Wa.map Prod.fst := fun z hz => (ha.mem z).1 (List.mem_append_left _ hz)
  have hB : ∀ z ∈ items (.nd b vb 0 false .nil r), z ∈ Wb.map Prod.fst := fun z hz => (hb.mem z).1 (List.mem_append_left _ hz)
  have hAB : ∀ z ∈ items (.nd a va 0 false l .nil), z ∉ items (.nd b vb 0 false .nil r) := fun z h1 h2 => nab z (hA z h1) z (hB z h2) rfl
  obtain ⟨nA, _, _⟩ := List.nodup_append.1 ha.nd
  obtain ⟨nB, _, _⟩ := List.nodup_append.1 hb.nd
  have wA : sq (.nd a va 0 false l .nil) 0 false = Wa := ha.whole
  have wB : (b, wrap64 (vb + 0)) :: sq r 0 false = Wb := hb.whole
  have hvb := hb.wv
  obtain ⟨b0, b1, b2, b3, b4, b5, b6, b7, _, b9⟩ := hb.rep
  have a0 : 0 ≤ a := ha.rep.1
  have hab : a ≠ b := fun e => hAB a List.mem_cons_self (by rw [e]; exact List.mem_cons_self)
  have nbr : b ∉ items r := by
    simp only [items, List.nil_append] at nB
    exact (List.nodup_cons.1 nB).1
  have nbA : b ∉ items (.nd a va 0 false l .nil) := fun h => hAB b h List.mem_cons_self
  obtain ⟨u, hu⟩ : ∃ u, hang s a b 0 = u := ⟨_, rfl⟩
  have ub : u b = setDn (s b) 0 a := by rw [← hu, hang_below (fun e => hab e.symm)]
  have ua : u a = { s a with up := b } := by rw [← hu, hang_x hab (by omega)]
  have uz : ∀ {z : Int}, z ≠ a → z ≠ b → u z = s z := fun {z} h1 h2 => by rw [← hu, hang_ne h1 h2]
  have RA : Rep u (.nd a va 0 false l .nil) b 0 := Rep.reup ha.rep nA (fun z hz hzr => uz hzr (fun e => nbA (by rw [← e]; exact hz))) (fun _ => ua)
  have RR : Rep u r b 0 := b9.frame (fun z hz => uz (fun e => hAB a List.mem_cons_self (List.mem_cons_of_mem _ (List.mem_append_right _ (by rw [← e]; exact hz)))) (fun e => nbr (by rw [← e]; exact hz)))
  have uvb : (u b).v = vb := by rw [ub]; exact b4
  rw [List.length_append] at hl
  have hlb : Wb.length = (sq r 0 false).length + 1 := by rw [← wB, List.length_cons]
  obtain ⟨ag, sm⟩ := pull_ag (s := u) (x := b) (l := .nd a va 0 false l .nil) (r := r) (u1 := b) (u2 := b) (by rw [ub]; rfl) (by rw [ub]; exact b3) (by rw [uvb]; rw [Int.add_zero] at hvb; exact hvb.1) RA RR nbA nbr (by rw [wA]; omega)
  rw [uvb] at ag
  have RB : Rep (pull u b) (.nd b vb 0 false (.nd a va 0 false l .nil) r) (-1) 0 := Rep.mk b0 (by rw [sm.1, ub]; exact b1) (by rw [sm.2.1, ub]; rfl) (by rw [sm.2.2.1, ub]; exact b3) (by rw [sm.2.2.2.1]; exact uvb) (by rw [sm.2.2.2.2.1, ub]; exact b5) (by rw [sm.2.2.2.2.2, ub]; exact b6) (by rw [hvb.1]; exact ag) (RA.frame (fun z hz => pull_ne (fun e => nbA (by rw [← e]; exact hz)))) (RR.frame (fun z hz => pull_ne (fun e => nbr (by rw [← e]; exact hz))))
  rw [hu]
  refine ⟨⟨RB, trivial, ?_, by rw [List.map_append]; exact hn, by rw [List.length_append]; exact hl⟩, fun z hz => ?_⟩
  · show sq (.nd a va 0 false l .nil) 0 false ++ (b, wrap64 (vb + 0)) :: sq r 0 false = _
    rw [wA, wB]
  · rw [List.map_append, List.mem_append, not_or] at hz
    have z1 : z ≠ a := fun e => hz.1 (by rw [e]; exact hA a List.mem_cons_self)
    have z2 : z ≠ b := fun e => hz.2 (by rw [e]; exact hB b List.mem_cons_self)
    rw [pull_ne z2]
    exact uz z1 z2
theorem Zip.other {s s' : Fo} {t : Tr} {Wa Wb : List (Int × Int)} (h : Zip s [] t Wb) (hf : ∀ z, z ≠ -1 → z ∉ Wa.map Prod.fst → s' z = s z) (hd : ∀ z, z ∈ Wb.map Prod.fst → z ∉ Wa.map Prod.fst) : Zip s' [] t Wb :=
  h.frame (fun z hz => hf z (by
    have h1 := h.rep.nonneg z (by have := (h.mem z).2 hz; simpa [itemsC] using this)
    omega) (hd z hz))
theorem join_ok {s : Fo} {ta tb : Tr} {Wa Wb : List (Int × Int)} {a b : Int} (ha : Zip s [] ta Wa) (hb : Zip s [] tb Wb) (xa : a ∈ Wa.map Prod.fst) (xb : b ∈ Wb.map Prod.fst) (hn : ((Wa ++ Wb).map Prod.fst).Nodup) (hl : (Wa ++ Wb).length ≤ 1000000) :
    ∃ s' t, (∃ K, ∀ k, K ≤ k → joinN k s a b = some (s', 0)) ∧ Zip s' [] t (Wa ++ Wb) ∧ ∀ z, z ≠ -1 → z ∉ (Wa ++ Wb).map Prod.fst → s' z = s z := by
  have hn' := hn
  rw [List.map_append] at hn'
  obtain ⟨_, _, nab⟩ := List.nodup_append.1 hn'
  have d1 : ∀ z, z ∈ Wb.map Prod.fst → z ∉ Wa.map Prod.fst := fun z h1 h2 => nab z h2 z h1 rfl
  have d2 : ∀ z, z ∈ Wa.map Prod.fst → z ∉ Wb.map Prod.fst := fun z h1 h2 => nab z h1 z h2 rfl
  have hab : a ≠ b := fun e => nab a xa b xb e
  obtain ⟨s1, v1, l1, r1, ⟨K1, k1⟩, z1, f1⟩ := splay_ok ha xa
  obtain ⟨s2, v2, l2, r2, ⟨K2, k2⟩, z2, f2⟩ := splay_ok (hb.other f1 d1) xb
  have z1' := z1.other f2 d2
  obtain ⟨s3, y, vy, l3, ⟨K3, k3⟩, z3, _, f3⟩ := last_ok z1'
  obtain ⟨s4, y', vy', r4, ⟨K4, k4⟩, z4, _, f4⟩ := first_ok (z2.other f3 d1)
  have z3' := z3.other f4 d2
  obtain ⟨z5, f5⟩ := hang_ok z3' z4 hn hl
  refine ⟨_, _, ⟨K1 + K2 + K3 + K4, fun k hk => ?_⟩, z5, fun z h1 h2 => ?_⟩
  · unfold joinN
    rw [if_neg hab, k1 k (by omega), Option.bind_some, k2 k (by omega), Option.bind_some, z1'.root_up, if_pos rfl, k3 k (by omega), Option.bind_some, k4 k (by omega), Option.bind_some]
  · have h3 := h2
    rw [List.map_append, List.mem_append, not_or] at h3
    rw [f5 z h2, f4 z h1 h3.2, f3 z h1 h3.1, f2 z h1 h3.2, f1 z h1 h3.1]
theorem join_same {s : Fo} {t : Tr} {W : List (Int × Int)} {a b : Int} (h : Zip s [] t W) (xa : a ∈ W.map Prod.fst) (xb : b ∈ W.map Prod.fst) :
    ∃ s' t', (∃ K, ∀ k, K ≤ k → joinN k s a b = some (s', 5)) ∧ Zip s' [] t' W ∧ ∀ z, z ≠ -1 → z ∉ W.map Prod.fst → s' z = s z := by
  by_cases hab : a = b
  · exact ⟨s, t, ⟨0, fun k _ => by unfold joinN; rw [if_pos hab]⟩, h, fun _ _ _ => rfl⟩
  · obtain ⟨s1, v1, l1, r1, ⟨K1, k1⟩, z1, f1⟩ := splay_ok h xa
    obtain ⟨s2, v2, l2, r2, ⟨K2, k2⟩, z2, f2⟩ := splay_ok z1 xb
    have hu : 0 ≤ (s2 a).up := up_in z2.rep (by have := (z2.mem a).2 xa; simpa [itemsC] using this) (fun e => hab e)
    refine ⟨s2, _, ⟨K1 + K2, fun k hk => ?_⟩, z2, fun z h1 h2 => (f2 z h1 h2).trans (f1 z h1 h2)⟩
    unfold joinN
    rw [if_neg hab, k1 k (by omega), Option.bind_some, k2 k (by omega), Option.bind_some, if_neg (by omega)]

theorem Rep.size {s : Fo} {t : Tr} {u p : Int} (h : Rep s t u p) : (if root t = -1 then 0 else (s (root t)).size) = ((sq t p false).length : Int) := by
  cases t with
  | nil => rfl
  | nd x v a tn l r =>
    have h0 : 0 ≤ x := h.1
    have := h.2.2.2.2.2.2.2.1.1
    rw [if_neg (by show x ≠ -1; omega)]
    exact this
/-- To a place of a row. -/
def atLoop : Nat → Fo → Int → Int → Option (Fo × Int)
  | 0, _, _, _ => none
  | k + 1, s, x, pl =>
    if pl < (if (s x).d0 = -1 then 0 else (s (s x).d0).size) then (if (s x).d0 = -1 then none else atLoop k (push s (s x).d0) (s x).d0 pl)
    else if pl = (if (s x).d0 = -1 then 0 else (s (s x).d0).size) then some (s, x)
    else if (s x).d1 = -1 then none else atLoop k (push s (s x).d1) (s x).d1 (wrap64 (wrap64 (pl - (if (s x).d0 = -1 then 0 else (s (s x).d0).size)) - 1))
def atN (k : Nat) (s : Fo) (x pl : Int) : Option (Fo × Int) := (splayN k s x).bind fun s1 => if pl < 0 ∨ (s1 x).size ≤ pl then some (s1, -1) else (atLoop k s1 x pl).bind fun p => (splayN k p.1 p.2).bind fun s2 => some (s2, p.2)
theorem at_loop {W : List (Int × Int)} : ∀ (n : Nat) (C : List Fr) (s : Fo) (x v : Int) (l r : Tr) (pl : Nat), (items (.nd x v 0 false l r)).length ≤ n → Zip s C (.nd x v 0 false l r) W → pl < (sq (.nd x v 0 false l r) 0 false).length →
    ∃ s' y vy C' l' r', (∀ k, n ≤ k → atLoop k s x (pl : Int) = some (s', y)) ∧ Zip s' C' (.nd y vy 0 false l' r') W ∧ ((sq (.nd x v 0 false l r) 0 false).map Prod.fst)[pl]? = some y ∧ ∀ z, z ∉ W.map Prod.fst → s' z = s z := by
  intro n
  induction n with
  | zero => intro C s x v l r pl hl; simp [items] at hl
  | succ n ih =>
    intro C s x v l r pl hl h hp
    obtain ⟨x0, x1, x2, x3, x4, x5, x6, x7, x8, x9⟩ := h.rep
    have hs := x8.size
    rw [show (0 : Int) + 0 = 0 from rfl] at hs
    have esq : sq (.nd x v 0 false l r) 0 false = sq l 0 false ++ (x, wrap64 (v + 0)) :: sq r 0 false := rfl
    have hlW := plugL_len C (sq (.nd x v 0 false l r) 0 false)
    rw [h.whole] at hlW
    have hlen := h.len
    simp only [items, List.length_cons, List.length_append] at hl
    rw [esq, List.length_append, List.length_cons] at hp hlW
    have hmap : ((sq (.nd x v 0 false l r) 0 false).map Prod.fst) = (sq l 0 false).map Prod.fst ++ x :: (sq r 0 false).map Prod.fst := by rw [esq, List.map_append, List.map_cons]
    by_cases c1 : pl < (sq l 0 false).length
    · cases l with
      | nil => simp [sq] at c1
      | nd c vc ac tc cl cr =>
        have c0 : 0 ≤ c := x8.1
        have hz := h.down.1
        obtain ⟨h1, h2⟩ := hz.push
        have e := sq_push c vc ac 0 tc false cl cr
        simp only [items, List.length_cons, List.length_append] at hl
        obtain ⟨s', y, vy, C', l', r', k1, k2, k3, k4⟩ := ih _ _ c vc _ _ pl (by simp only [items, List.length_cons, List.length_append, items_layT_len]; omega) h1 (by rw [e]; exact c1)
        refine ⟨s', y, vy, C', l', r', fun k hk => ?_, k2, ?_, fun z hz => (k4 z hz).trans (h2 z hz)⟩
        · obtain ⟨k, rfl⟩ : ∃ m, k = m + 1 := ⟨k - 1, by omega⟩
          have x2 : (s x).d0 = c := x2
          have hs : (if c = -1 then 0 else (s c).size) = ((sq (.nd c vc ac tc cl cr) 0 false).length : Int) := hs
          rw [atLoop, x2, hs, if_pos (by omega), if_neg (by omega)]
          exact k1 k (by omega)
        · rw [e] at k3
          rw [hmap, List.getElem?_append_left (by rw [List.length_map]; exact c1)]
          exact k3
    · by_cases c2 : pl = (sq l 0 false).length
      · refine ⟨s, x, v, C, l, r, fun k hk => ?_, h, ?_, fun _ _ => rfl⟩
        · obtain ⟨k, rfl⟩ : ∃ m, k = m + 1 := ⟨k - 1, by omega⟩
          rw [atLoop, x2, hs, if_neg (by omega), if_pos (by omega)]
        · rw [hmap, List.getElem?_append_right (by rw [List.length_map]; omega), List.length_map, c2, Nat.sub_self]
          rfl
      · cases r with
        | nil => simp only [sq, List.length_nil] at hp; omega
        | nd c vc ac tc cl cr =>
          have c0 : 0 ≤ c := x9.1
          have hz := h.down.2
          obtain ⟨h1, h2⟩ := hz.push
          have e := sq_push c vc ac 0 tc false cl cr
          simp only [items, List.length_cons, List.length_append] at hl
          obtain ⟨s', y, vy, C', l', r', k1, k2, k3, k4⟩ := ih _ _ c vc _ _ (pl - (sq l 0 false).length - 1) (by simp only [items, List.length_cons, List.length_append, items_layT_len]; omega) h1 (by rw [e]; omega)
          refine ⟨s', y, vy, C', l', r', fun k hk => ?_, k2, ?_, fun z hz => (k4 z hz).trans (h2 z hz)⟩
          · obtain ⟨k, rfl⟩ : ∃ m, k = m + 1 := ⟨k - 1, by omega⟩
            have x3 : (s x).d1 = c := x3
            have ew : wrap64 (wrap64 ((pl : Int) - ((sq l 0 false).length : Int)) - 1) = ((pl - (sq l 0 false).length - 1 : Nat) : Int) := by unfold wrap64; omega
            rw [atLoop, x2, hs, if_neg (by omega), if_neg (by omega), x3, if_neg (by omega), ew]
            exact k1 k (by omega)
          · rw [e] at k3
            rw [hmap, List.getElem?_append_right (by rw [List.length_map]; omega), List.length_map, show pl - (sq l 0 false).length = (pl - (sq l 0 false).length - 1) + 1 by omega, List.getElem?_cons_succ]
            exact k3
/-- What stands at a place of a row. -/
theorem at_ok {s : Fo} {t : Tr} {W : List (Int × Int)} {x pl : Int} (h : Zip s [] t W) (hx : x ∈ W.map Prod.fst) :
    ∃ s' t', (∃ K, ∀ k, K ≤ k → atN k s x pl = some (s', if pl < 0 then -1 else (W.map Prod.fst).getD pl.toNat (-1))) ∧ Zip s' [] t' W ∧ ∀ z, z ≠ -1 → z ∉ W.map Prod.fst → s' z = s z := by
  obtain ⟨s1, v, l, r, ⟨K1, k1⟩, z1, f1⟩ := splay_ok h hx
  have hsz : (s1 x).size = (W.length : Int) := by
    have := z1.rep.2.2.2.2.2.2.2.1.1
    have e : sq (.nd x v 0 false l r) 0 false = W := z1.whole
    rw [e] at this
    exact this
  by_cases c : pl < 0 ∨ (s1 x).size ≤ pl
  · refine ⟨s1, _, ⟨K1, fun k hk => ?_⟩, z1, f1⟩
    unfold atN
    rw [k1 k hk, Option.bind_some, if_pos c]
    by_cases c2 : pl < 0
    · rw [if_pos c2]
    · rw [if_neg c2, List.getD_eq_getElem?_getD, List.getElem?_eq_none (by rw [List.length_map]; omega)]
      rfl
  · obtain ⟨m, rfl⟩ : ∃ m : Nat, pl = (m : Int) := ⟨pl.toNat, by omega⟩
    have e : sq (.nd x v 0 false l r) 0 false = W := z1.whole
    obtain ⟨s2, y, vy, C, l2, r2, k2, z2, e2, f2⟩ := at_loop (items (.nd x v 0 false l r)).length [] s1 x v l r m (Nat.le_refl _) z1 (by rw [e]; omega)
    rw [e] at e2
    obtain ⟨t2, ht⟩ := z2.top
    have hy : y ∈ W.map Prod.fst := (z2.mem y).1 (List.mem_append_left _ List.mem_cons_self)
    obtain ⟨s3, v3, l3, r3, ⟨K3, k3⟩, z3, f3⟩ := splay_ok ht hy
    refine ⟨s3, _, ⟨K1 + (items (.nd x v 0 false l r)).length + K3, fun k hk => ?_⟩, z3, fun z a b => (f3 z a b).trans ((f2 z b).trans (f1 z a b))⟩
    unfold atN
    rw [k1 k (by omega), Option.bind_some, if_neg c, k2 k (by omega), Option.bind_some, k3 k (by omega), Option.bind_some, if_neg (by omega), Int.toNat_natCast, List.getD_eq_getElem?_getD, e2]
    rfl
/-- How many items are ahead. -/
def placeN (k : Nat) (s : Fo) (x : Int) : Option (Fo × Int) := (splayN k s x).bind fun s1 => some (s1, if (s1 x).d0 = -1 then 0 else (s1 (s1 x).d0).size)
theorem place_ok {s : Fo} {t : Tr} {W : List (Int × Int)} {x : Int} (h : Zip s [] t W) (hx : x ∈ W.map Prod.fst) :
    ∃ s' t' L R v, W = L ++ (x, v) :: R ∧ (∃ K, ∀ k, K ≤ k → placeN k s x = some (s', (L.length : Int))) ∧ Zip s' [] t' W ∧ ∀ z, z ≠ -1 → z ∉ W.map Prod.fst → s' z = s z := by
  obtain ⟨s1, v, l, r, ⟨K1, k1⟩, z1, f1⟩ := splay_ok h hx
  have hs := z1.rep.2.2.2.2.2.2.2.2.1.size
  have hd := z1.rep.2.2.1
  rw [show (0 : Int) + 0 = 0 from rfl] at hs
  refine ⟨s1, _, sq l 0 false, sq r 0 false, _, z1.mid, ⟨K1, fun k hk => ?_⟩, z1, f1⟩
  unfold placeN
  rw [k1 k hk, Option.bind_some, hd, hs]
/-- An item's value. -/
def valueN (k : Nat) (s : Fo) (x : Int) : Option (Fo × Int) := (splayN k s x).bind fun s1 => some (s1, (s1 x).v)
theorem value_ok {s : Fo} {t : Tr} {W : List (Int × Int)} {x v : Int} (h : Zip s [] t W) (hx : (x, v) ∈ W) :
    ∃ s' t', (∃ K, ∀ k, K ≤ k → valueN k s x = some (s', v)) ∧ Zip s' [] t' W ∧ ∀ z, z ≠ -1 → z ∉ W.map Prod.fst → s' z = s z := by
  obtain ⟨s1, v1, l, r, ⟨K1, k1⟩, z1, f1⟩ := splay_ok h (List.mem_map.2 ⟨_, hx, rfl⟩)
  have hw := z1.wv
  have e : W = sq l 0 false ++ (x, v1) :: sq r 0 false := by rw [z1.mid, hw.1]
  obtain ⟨A, B, hAB⟩ := List.append_of_mem hx
  have hn := h.nodup
  rw [hAB] at hn
  obtain ⟨_, ev, _⟩ := key_uniq (hAB.symm.trans e) hn
  refine ⟨s1, _, ⟨K1, fun k hk => ?_⟩, z1, f1⟩
  unfold valueN
  rw [k1 k hk, Option.bind_some, hw.2, ev]
/-- Added to all of a row. -/
theorem sq_add (d : Int) : ∀ (t : Tr) (p : Int) (u : Bool), sq t (d + p) u = (sq t p u).map fun y => (y.1, wrap64 (y.2 + d))
  | .nil, _, _ => rfl
  | .nd x v a t l r, p, u => by
    have e : a + (d + p) = d + (a + p) := by omega
    have e2 : wrap64 (wrap64 (v + p) + d) = wrap64 (v + (d + p)) := by unfold wrap64; omega
    have hl := sq_add d l (a + p) (t ^^ u)
    have hr := sq_add d r (a + p) (t ^^ u)
    cases u <;> simp only [sq, e, hl, hr, Bool.false_eq_true, if_false, if_true, List.map_append, List.map_cons, e2]

/-- The first of the least ones. -/
def leastLoop (want : Int) : Nat → Fo → Int → Option (Fo × Int)
  | 0, _, _ => none
  | k + 1, s, x =>
    if (s x).d0 ≠ -1 ∧ (s (s x).d0).ls = want then leastLoop want k (push s (s x).d0) (s x).d0
    else if (s x).v = want then some (s, x)
    else if (s x).d1 = -1 then none else leastLoop want k (push s (s x).d1) (s x).d1
def leastN (k : Nat) (s : Fo) (x : Int) : Option (Fo × Int) := (splayN k s x).bind fun s1 => (leastLoop (s1 x).ls k s1 x).bind fun p => (splayN k p.1 p.2).bind fun s2 => some (s2, p.2)
theorem Rep.least {s : Fo} {c v a u : Int} {t : Bool} {l r : Tr} (h : Rep s (.nd c v a t l r) u 0) : (∀ y ∈ sq (.nd c v a t l r) 0 false, (s c).ls ≤ y.2) ∧ ∃ y ∈ sq (.nd c v a t l r) 0 false, y.2 = (s c).ls := by
  obtain ⟨_, _, _, _, _, _, _, ⟨_, ⟨_, w2, _⟩, h2, ⟨y, y1, y2⟩, _⟩, _⟩ := h
  rw [wrap0 w2] at h2 y2
  exact ⟨fun y hy => (h2 y hy).1, y, y1, y2⟩
theorem least_loop {W : List (Int × Int)} {want : Int} : ∀ (n : Nat) (C : List Fr) (s : Fo) (x v : Int) (l r : Tr), (items (.nd x v 0 false l r)).length ≤ n → Zip s C (.nd x v 0 false l r) W → (∀ y ∈ sq (.nd x v 0 false l r) 0 false, want ≤ y.2) → (∃ y ∈ sq (.nd x v 0 false l r) 0 false, y.2 = want) →
    ∃ s' y vy C' l' r', (∀ k, n ≤ k → leastLoop want k s x = some (s', y)) ∧ Zip s' C' (.nd y vy 0 false l' r') W ∧ (∃ L R, sq (.nd x v 0 false l r) 0 false = L ++ (y, want) :: R ∧ ∀ q ∈ L, want < q.2) ∧ ∀ z, z ∉ W.map Prod.fst → s' z = s z := by
  intro n
  induction n with
  | zero => intro C s x v l r hl; simp [items] at hl
  | succ n ih =>
    intro C s x v l r hl h hge hex
    obtain ⟨x0, x1, x2, x3, x4, x5, x6, x7, x8, x9⟩ := h.rep
    have hwv := h.wv
    have esq : sq (.nd x v 0 false l r) 0 false = sq l 0 false ++ (x, v) :: sq r 0 false := by
      show sq l 0 false ++ (x, wrap64 (v + 0)) :: sq r 0 false = _
      rw [hwv.1]
    rw [esq] at hge hex
    simp only [items, List.length_cons, List.length_append] at hl
    have hleft : ((s x).d0 ≠ -1 ∧ (s (s x).d0).ls = want) ∨ (¬ ((s x).d0 ≠ -1 ∧ (s (s x).d0).ls = want) ∧ ∀ q ∈ sq l 0 false, want < q.2) := by
      by_cases c : (s x).d0 ≠ -1 ∧ (s (s x).d0).ls = want
      · exact .inl c
      · refine .inr ⟨c, fun q hq => ?_⟩
        cases l with
        | nil => cases hq
        | nd c' vc ac tc cl cr =>
          have c0 : 0 ≤ c' := x8.1
          have x2 : (s x).d0 = c' := x2
          obtain ⟨m1, y, y1, y2⟩ := Rep.least x8
          have hy := hge y (List.mem_append_left _ y1)
          have hq2 := m1 q hq
          have : (s c').ls ≠ want := fun e => c ⟨by rw [x2]; omega, by rw [x2]; exact e⟩
          omega
    rcases hleft with c | ⟨c, hlt⟩
    · cases l with
      | nil => exact absurd x2 c.1
      | nd c' vc ac tc cl cr =>
        have c0 : 0 ≤ c' := x8.1
        have x2 : (s x).d0 = c' := x2
        have hz := h.down.1
        obtain ⟨h1, h2⟩ := hz.push
        have e := sq_push c' vc ac 0 tc false cl cr
        simp only [items, List.length_cons, List.length_append] at hl
        obtain ⟨m1, y, y1, y2⟩ := Rep.least x8
        rw [x2] at c
        obtain ⟨s', y', vy, C', l', r', k1, k2, ⟨L, R, k3, k3'⟩, k4⟩ := ih _ _ c' vc _ _ (by simp only [items, List.length_cons, List.length_append, items_layT_len]; omega) h1 (by rw [e]; exact fun q hq => hge q (List.mem_append_left _ hq)) (by rw [e]; exact ⟨y, y1, y2.trans c.2⟩)
        rw [e] at k3
        refine ⟨s', y', vy, C', l', r', fun k hk => ?_, k2, ⟨L, R ++ (x, v) :: sq r 0 false, ?_, k3'⟩, fun z hz => (k4 z hz).trans (h2 z hz)⟩
        · obtain ⟨k, rfl⟩ : ∃ m, k = m + 1 := ⟨k - 1, by omega⟩
          rw [leastLoop, x2, if_pos c]
          exact k1 k (by omega)
        · rw [esq, k3, List.append_assoc, List.cons_append]
    · by_cases cv : v = want
      · refine ⟨s, x, v, C, l, r, fun k hk => ?_, h, ⟨sq l 0 false, sq r 0 false, by rw [esq, cv], hlt⟩, fun _ _ => rfl⟩
        obtain ⟨k, rfl⟩ : ∃ m, k = m + 1 := ⟨k - 1, by omega⟩
        rw [leastLoop, if_neg c, if_pos (hwv.2.trans cv)]
      · obtain ⟨y, y1, y2⟩ := hex
        have yr : y ∈ sq r 0 false := by
          rcases List.mem_append.1 y1 with h1 | h1
          · have := hlt y h1; omega
          · rcases List.mem_cons.1 h1 with h1 | h1
            · subst h1; exact absurd y2 cv
            · exact h1
        cases r with
        | nil => cases yr
        | nd c' vc ac tc cl cr =>
          have c0 : 0 ≤ c' := x9.1
          have x3 : (s x).d1 = c' := x3
          have hz := h.down.2
          obtain ⟨h1, h2⟩ := hz.push
          have e := sq_push c' vc ac 0 tc false cl cr
          simp only [items, List.length_cons, List.length_append] at hl
          obtain ⟨s', y', vy, C', l', r', k1, k2, ⟨L, R, k3, k3'⟩, k4⟩ := ih _ _ c' vc _ _ (by simp only [items, List.length_cons, List.length_append, items_layT_len]; omega) h1 (by rw [e]; exact fun q hq => hge q (List.mem_append_right _ (List.mem_cons_of_mem _ hq))) (by rw [e]; exact ⟨y, yr, y2⟩)
          rw [e] at k3
          refine ⟨s', y', vy, C', l', r', fun k hk => ?_, k2, ⟨sq l 0 false ++ (x, v) :: L, R, ?_, fun q hq => ?_⟩, fun z hz => (k4 z hz).trans (h2 z hz)⟩
          · obtain ⟨k, rfl⟩ : ∃ m, k = m + 1 := ⟨k - 1, by omega⟩
            rw [leastLoop, if_neg c, if_neg (by rw [hwv.2]; exact cv), x3, if_neg (by omega)]
            exact k1 k (by omega)
          · rw [esq, k3, List.append_assoc, List.cons_append]
          · rcases List.mem_append.1 hq with hq | hq
            · exact hlt q hq
            · rcases List.mem_cons.1 hq with hq | hq
              · subst hq
                have := hge (x, v) (List.mem_append_right _ List.mem_cons_self)
                show want < v
                have h_ : want ≤ v := this
                omega
              · exact k3' q hq
theorem least_ok {s : Fo} {t : Tr} {W : List (Int × Int)} {x : Int} (h : Zip s [] t W) (hx : x ∈ W.map Prod.fst) :
    ∃ s' t' L y m R, W = L ++ (y, m) :: R ∧ (∀ q ∈ L, m < q.2) ∧ (∀ q ∈ R, m ≤ q.2) ∧ (∃ K, ∀ k, K ≤ k → leastN k s x = some (s', y)) ∧ Zip s' [] t' W ∧ ∀ z, z ≠ -1 → z ∉ W.map Prod.fst → s' z = s z := by
  obtain ⟨s1, v, l, r, ⟨K1, k1⟩, z1, f1⟩ := splay_ok h hx
  have e : sq (.nd x v 0 false l r) 0 false = W := z1.whole
  obtain ⟨m1, m2⟩ := Rep.least z1.rep
  obtain ⟨s2, y, vy, C, l2, r2, k2, z2, ⟨L, R, e2, e3⟩, f2⟩ := least_loop (want := (s1 x).ls) (items (.nd x v 0 false l r)).length [] s1 x v l r (Nat.le_refl _) z1 m1 m2
  rw [e] at e2
  obtain ⟨t2, ht⟩ := z2.top
  have hy : y ∈ W.map Prod.fst := (z2.mem y).1 (List.mem_append_left _ List.mem_cons_self)
  obtain ⟨s3, v3, l3, r3, ⟨K3, k3⟩, z3, f3⟩ := splay_ok ht hy
  refine ⟨s3, _, L, y, _, R, e2, e3, fun q hq => m1 q (by rw [e, e2]; exact List.mem_append_right _ (List.mem_cons_of_mem _ hq)), ⟨K1 + (items (.nd x v 0 false l r)).length + K3, fun k hk => ?_⟩, z3, fun z a b => (f3 z a b).trans ((f2 z b).trans (f1 z a b))⟩
  unfold leastN
  rw [k1 k (by omega), Option.bind_some, k2 k (by omega), Option.bind_some, k3 k (by omega), Option.bind_some]
/-- Added to a row, if it stays within the bounds. -/
def addN (k : Nat) (s : Fo) (x d : Int) : Option (Fo × Int) := (splayN k s x).bind fun s1 => if (0 ≤ d ∧ (s1 x).ms > wrap64 (4611686018427387904 - d)) ∨ (d < 0 ∧ (s1 x).ls < wrap64 (-4611686018427387904 - d)) then some (s1, 3) else some (lay s1 x d false, 0)
theorem Rep.most {s : Fo} {c v a u : Int} {t : Bool} {l r : Tr} (h : Rep s (.nd c v a t l r) u 0) : (∀ y ∈ sq (.nd c v a t l r) 0 false, y.2 ≤ (s c).ms) ∧ ∃ y ∈ sq (.nd c v a t l r) 0 false, y.2 = (s c).ms := by
  obtain ⟨_, _, _, _, _, _, _, ⟨_, ⟨_, _, w3⟩, h2, _, ⟨y, y1, y2⟩⟩, _⟩ := h
  rw [wrap0 w3] at h2 y2
  exact ⟨fun y hy => (h2 y hy).2, y, y1, y2⟩
theorem Rep.shift {s : Fo} {d : Int} : ∀ {t : Tr} {u p : Int}, Rep s t u p → (∀ y ∈ sq t p false, wrap64 (y.2 + d) = y.2 + d) → Rep s t u (d + p)
  | .nil, _, _, _, _ => trivial
  | .nd x v a t l r, u, p, h, hw => by
    have hq := sq_add d (.nd x v a t l r) p false
    obtain ⟨h0, h1, h2, h3, h4, h5, h6, ⟨g1, g2, g3, ⟨y, y1, y2⟩, ⟨z, z1, z2⟩⟩, h8, h9⟩ := h
    have e : a + (d + p) = d + (a + p) := by omega
    have el : wrap64 ((s x).ls + (d + p)) = y.2 + d := by
      rw [← hw y y1, y2]
      unfold wrap64; omega
    have em : wrap64 ((s x).ms + (d + p)) = z.2 + d := by
      rw [← hw z z1, z2]
      unfold wrap64; omega
    have sub : ∀ (q : Tr), (∀ y, y ∈ sq q (a + p) false → y ∈ sq q (a + p) (t ^^ false)) := fun q y hy => by
      cases t
      · exact hy
      · show y ∈ sq q (a + p) (!false)
        rw [sq_turn, List.mem_reverse]; exact hy
    refine ⟨h0, h1, h2, h3, h4, h5, h6, ⟨?_, g2, ?_, ?_, ?_⟩, ?_, ?_⟩
    · rw [hq, List.length_map]; exact g1
    · rw [hq, el, em]
      intro q hq2
      obtain ⟨q', hq', rfl⟩ := List.mem_map.1 hq2
      have := g3 q' hq'
      show y.2 + d ≤ wrap64 (q'.2 + d) ∧ wrap64 (q'.2 + d) ≤ z.2 + d
      rw [hw q' hq']
      omega
    · rw [hq, el]
      exact ⟨_, List.mem_map.2 ⟨y, y1, rfl⟩, hw y y1⟩
    · rw [hq, em]
      exact ⟨_, List.mem_map.2 ⟨z, z1, rfl⟩, hw z z1⟩
    · rw [e]
      exact h8.shift (fun y hy => hw y (List.mem_append_left _ (sub l y hy)))
    · rw [e]
      exact h9.shift (fun y hy => hw y (List.mem_append_right _ (List.mem_cons_of_mem _ (sub r y hy))))
theorem add_ok {s : Fo} {t : Tr} {W : List (Int × Int)} {x d : Int} (h : Zip s [] t W) (hx : x ∈ W.map Prod.fst) (hd : -9223372036854775808 ≤ d ∧ d ≤ 9223372036854775807) (hb : ∀ y ∈ W, -4611686018427387904 ≤ y.2 ∧ y.2 ≤ 4611686018427387904) :
    ∃ s' t', (∀ z, z ≠ -1 → z ∉ W.map Prod.fst → s' z = s z) ∧
      (((∀ y ∈ W, -4611686018427387904 ≤ y.2 + d ∧ y.2 + d ≤ 4611686018427387904) ∧ (∃ K, ∀ k, K ≤ k → addN k s x d = some (s', 0)) ∧ Zip s' [] t' (W.map fun y => (y.1, y.2 + d))) ∨
       ((∃ y ∈ W, ¬ (-4611686018427387904 ≤ y.2 + d ∧ y.2 + d ≤ 4611686018427387904)) ∧ (∃ K, ∀ k, K ≤ k → addN k s x d = some (s', 3)) ∧ Zip s' [] t' W)) := by
  obtain ⟨s1, v, l, r, ⟨K1, k1⟩, z1, f1⟩ := splay_ok h hx
  have e : sq (.nd x v 0 false l r) 0 false = W := z1.whole
  obtain ⟨m1, ym, ym1, ym2⟩ := Rep.least z1.rep
  obtain ⟨n1, yn, yn1, yn2⟩ := Rep.most z1.rep
  rw [e] at m1 ym1 n1 yn1
  have w1 : 0 ≤ d → wrap64 (4611686018427387904 - d) = 4611686018427387904 - d := fun h => by unfold wrap64; omega
  have w2 : d < 0 → wrap64 (-4611686018427387904 - d) = -4611686018427387904 - d := fun h => by unfold wrap64; omega
  by_cases c : (0 ≤ d ∧ (s1 x).ms > wrap64 (4611686018427387904 - d)) ∨ (d < 0 ∧ (s1 x).ls < wrap64 (-4611686018427387904 - d))
  · refine ⟨s1, _, f1, .inr ⟨?_, ⟨K1, fun k hk => ?_⟩, z1⟩⟩
    · rcases c with c | c
      · rw [w1 c.1] at c
        exact ⟨yn, yn1, by omega⟩
      · rw [w2 c.1] at c
        exact ⟨ym, ym1, by omega⟩
    · unfold addN
      rw [k1 k hk, Option.bind_some, if_pos c]
  · have hall : ∀ y ∈ W, -4611686018427387904 ≤ y.2 + d ∧ y.2 + d ≤ 4611686018427387904 := fun y hy => by
      have c1 : 0 ≤ d → (s1 x).ms ≤ 4611686018427387904 - d := fun h => by
        have := w1 h
        exact Classical.byContradiction fun hc => c (.inl ⟨h, by omega⟩)
      have c2 : d < 0 → -4611686018427387904 - d ≤ (s1 x).ls := fun h => by
        have := w2 h
        exact Classical.byContradiction fun hc => c (.inr ⟨h, by omega⟩)
      have a1 := m1 y hy
      have a2 := n1 y hy
      have a3 := hb y hy
      omega
    have hn := z1.nd
    obtain ⟨nn, _, _⟩ := List.nodup_append.1 hn
    have hww : ∀ y ∈ W, wrap64 (y.2 + d) = y.2 + d := fun y hy => by
      have := hall y hy
      unfold wrap64; omega
    have hr : Rep s1 (.nd x v 0 false l r) (-1) (d + 0) := Rep.shift z1.rep (by rw [e]; exact hww)
    have hq : sq (layT d false (.nd x v 0 false l r)) 0 false = W.map fun y => (y.1, y.2 + d) := by
      rw [sq_layT]
      show sq (.nd x v 0 false l r) (d + 0) false = _
      rw [sq_add, e]
      exact List.map_congr_left (fun y hy => by rw [hww y hy])
    have hmap : ((W.map fun y => (y.1, y.2 + d)).map Prod.fst) = W.map Prod.fst := by rw [List.map_map]; rfl
    refine ⟨lay s1 x d false, layT d false (.nd x v 0 false l r), fun z a b => ?_, .inl ⟨hall, ⟨K1, fun k hk => ?_⟩, ⟨Rep.lay hr nn, trivial, hq, by rw [hmap]; exact h.nodup, by rw [List.length_map]; exact h.len⟩⟩⟩
    · have hz : z ∉ items (.nd x v 0 false l r) := fun hc => b ((z1.mem z).1 (List.mem_append_left _ hc))
      exact (lay_ne hz).trans (f1 z a b)
    · unfold addN
      rw [k1 k hk, Option.bind_some, if_neg c]

/-- Up to the root. -/
def topN (s : Fo) : Nat → Int → Option Int
  | 0, _ => none
  | k + 1, x => if (s x).up = -1 then some x else topN s k (s x).up
theorem top_dp {s : Fo} {t : Tr} {x : Int} {w : List Int} (h : DP t x w) : ∀ {u p : Int}, Rep s t u p → ∀ k, topN s (w.length - 1 + k) x = topN s k (root t) := by
  induction h with
  | here => intro u p hr k; simp [root]
  | @left x y v a t l r w h ih =>
    intro u p hr k
    obtain ⟨h0, h1, h2, _, _, _, _, _, h8, _⟩ := hr
    have hp := h.pos
    have e := ih h8 (k + 1)
    rw [show (y :: w).length - 1 + k = w.length - 1 + (k + 1) by rw [List.length_cons]; omega, e]
    cases l with
    | nil => cases h
    | nd c vc ac tc cl cr =>
      have hu : (s c).up = y := h8.2.1
      show topN s (k + 1) c = topN s k y
      rw [topN, hu, if_neg (by omega)]
  | @right x y v a t l r w h ih =>
    intro u p hr k
    obtain ⟨h0, h1, h2, _, _, _, _, _, _, h9⟩ := hr
    have hp := h.pos
    have e := ih h9 (k + 1)
    rw [show (y :: w).length - 1 + k = w.length - 1 + (k + 1) by rw [List.length_cons]; omega, e]
    cases r with
    | nil => cases h
    | nd c vc ac tc cl cr =>
      have hu : (s c).up = y := h9.2.1
      show topN s (k + 1) c = topN s k y
      rw [topN, hu, if_neg (by omega)]
def belowN (s : Fo) (x sd : Int) (tn : Bool) : Int × Bool := if tn = true then (dn (s x) (1 - sd), !(s x).tn) else (dn (s x) sd, (s x).tn)
/-- All items of a tree. -/
def allLoop (s : Fo) : Nat → List (Int × Bool) → Int → Bool → List Int → Option (List Int)
  | 0, _, _, _, _ => none
  | k + 1, wait, x, tn, out =>
    if x = -1 then match wait.reverse with
      | [] => some out
      | (y, ty) :: rest => allLoop s k rest.reverse (belowN s y 1 ty).1 (belowN s y 1 ty).2 (out ++ [y])
    else allLoop s k (wait ++ [(x, tn)]) (belowN s x 0 tn).1 (belowN s x 0 tn).2 out
theorem all_tree {s : Fo} : ∀ {t : Tr} {u p : Int}, Rep s t u p → ∀ (tn : Bool) (wait : List (Int × Bool)) (out : List Int), ∃ c tn', c ≤ 2 * (items t).length ∧ ∀ k, allLoop s (c + k) wait (root t) tn out = allLoop s k wait (-1) tn' (out ++ (sq t p tn).map Prod.fst)
  | .nil, _, _, _, tn, wait, out => ⟨0, tn, Nat.zero_le _, fun k => by simp [sq, root]⟩
  | .nd x v a t l r, u, p, h, tn, wait, out => by
    obtain ⟨h0, h1, h2, h3, h4, h5, h6, h7, h8, h9⟩ := h
    have hx : x ≠ -1 := by omega
    have pop : ∀ (k : Nat) (tn2 : Bool) (out2 : List Int), allLoop s (k + 1) (wait ++ [(x, tn)]) (-1) tn2 out2 = allLoop s k wait (belowN s x 1 tn).1 (belowN s x 1 tn).2 (out2 ++ [x]) := fun k tn2 out2 => by
      rw [allLoop, if_pos rfl, List.reverse_append]
      show allLoop s k wait.reverse.reverse _ _ _ = _
      rw [List.reverse_reverse]
    cases tn with
    | false =>
      obtain ⟨c1, t1, b1_, k1⟩ := all_tree h8 (t ^^ false) (wait ++ [(x, false)]) out
      obtain ⟨c2, t2, b2_, k2⟩ := all_tree h9 (t ^^ false) wait (out ++ (sq l (a + p) (t ^^ false)).map Prod.fst ++ [x])
      refine ⟨1 + c1 + 1 + c2, t2, by simp only [items, List.length_cons, List.length_append]; omega, fun k => ?_⟩
      have b0 : belowN s x 0 false = (root l, t ^^ false) := by
        show ((s x).d0, (s x).tn) = _
        rw [h2, h6, Bool.xor_false]
      have b1 : belowN s x 1 false = (root r, t ^^ false) := by
        show ((s x).d1, (s x).tn) = _
        rw [h3, h6, Bool.xor_false]
      rw [show 1 + c1 + 1 + c2 + k = (c1 + (c2 + k + 1)) + 1 by omega]
      show allLoop s ((c1 + (c2 + k + 1)) + 1) wait x false out = _
      rw [allLoop, if_neg hx, b0]
      show allLoop s (c1 + (c2 + k + 1)) (wait ++ [(x, false)]) (root l) (t ^^ false) out = _
      rw [k1, pop, b1]
      show allLoop s (c2 + k) wait (root r) (t ^^ false) _ = _
      rw [k2]
      simp only [sq, Bool.false_eq_true, if_false, List.map_append, List.map_cons, List.append_assoc, List.singleton_append]
    | true =>
      obtain ⟨c1, t1, b1_, k1⟩ := all_tree h9 (t ^^ true) (wait ++ [(x, true)]) out
      obtain ⟨c2, t2, b2_, k2⟩ := all_tree h8 (t ^^ true) wait (out ++ (sq r (a + p) (t ^^ true)).map Prod.fst ++ [x])
      refine ⟨1 + c1 + 1 + c2, t2, by simp only [items, List.length_cons, List.length_append]; omega, fun k => ?_⟩
      have b0 : belowN s x 0 true = (root r, t ^^ true) := by
        show ((s x).d1, !(s x).tn) = _
        rw [h3, h6, Bool.xor_true]
      have b1 : belowN s x 1 true = (root l, t ^^ true) := by
        show ((s x).d0, !(s x).tn) = _
        rw [h2, h6, Bool.xor_true]
      rw [show 1 + c1 + 1 + c2 + k = (c1 + (c2 + k + 1)) + 1 by omega]
      show allLoop s ((c1 + (c2 + k + 1)) + 1) wait x true out = _
      rw [allLoop, if_neg hx, b0]
      show allLoop s (c1 + (c2 + k + 1)) (wait ++ [(x, true)]) (root r) (t ^^ true) out = _
      rw [k1, pop, b1]
      show allLoop s (c2 + k) wait (root l) (t ^^ true) _ = _
      rw [k2]
      simp only [sq, if_true, List.map_append, List.map_cons, List.append_assoc, List.singleton_append]
def rowN (k : Nat) (s : Fo) (x : Int) : Option (List Int) := (topN s k x).bind fun r => allLoop s k [] r false []
theorem row_ok {s : Fo} {t : Tr} {W : List (Int × Int)} {x : Int} (h : Zip s [] t W) (hx : x ∈ W.map Prod.fst) : ∀ k, 4000000 ≤ k → rowN k s x = some (W.map Prod.fst) := by
  have hx' : x ∈ items t := by
    have := (h.mem x).2 hx
    simpa [itemsC] using this
  obtain ⟨w, hw⟩ := DP.some hx'
  have hp := hw.pos
  have htop : ∀ k, w.length ≤ k → topN s k x = some (root t) := fun k hk => by
    have e := top_dp hw h.rep (k - (w.length - 1))
    rw [show w.length - 1 + (k - (w.length - 1)) = k by omega] at e
    rw [e]
    obtain ⟨m, hm⟩ : ∃ m, k - (w.length - 1) = m + 1 := ⟨k - (w.length - 1) - 1, by omega⟩
    rw [hm]
    cases t with
    | nil => cases hx'
    | nd c vc ac tc cl cr =>
      have hu : (s c).up = -1 := h.rep.2.1
      show topN s (m + 1) c = some c
      rw [topN, if_pos hu]
  obtain ⟨c, tn, hcl, hc⟩ := all_tree h.rep false [] []
  have hi : (items t).length ≤ 1000000 := by
    have h3 := (sq_perm t 0 false).length_eq
    have h4 : sq t 0 false = W := h.whole
    have h6 := h.len
    rw [List.length_map, h4] at h3
    omega
  have hwl := hw.len
  intro k hk
  unfold rowN
  rw [htop k (by omega), Option.bind_some, show k = c + ((k - c - 1) + 1) by omega, hc, allLoop, if_pos rfl]
  have e : sq t 0 false = W := h.whole
  rw [e]
  rfl
/-- A new forest: each item a row of its own. -/
def newFo (vs : List Int) : Fo := fun x => ⟨-1, -1, -1, 1, vs.getD x.toNat 0, vs.getD x.toNat 0, vs.getD x.toNat 0, 0, false⟩
def ones (vs : List Int) : List (List (Int × Int)) := (List.range vs.length).map fun i : Nat => [((i : Int), vs.getD i 0)]
theorem ones_fst (vs : List Int) : (ones vs).flatten.map Prod.fst = (List.range vs.length).map fun i : Nat => (i : Int) := by
  unfold ones
  generalize List.range vs.length = l
  induction l with
  | nil => rfl
  | cons a l ih => simp only [List.map_cons, List.flatten_cons, List.map_append, ih, List.map_nil, List.singleton_append]
theorem new_ok {vs : List Int} (hw : ∀ v ∈ vs, wrap64 v = v) : Fs (newFo vs) (vs.length : Int) (ones vs) := by
  refine ⟨fun W hW => ?_, fun W hW => ?_, ?_, fun x => ?_⟩
  · obtain ⟨i, hi, rfl⟩ := List.mem_map.1 hW
    have hi2 := List.mem_range.1 hi
    have hv : wrap64 (vs.getD i 0) = vs.getD i 0 := hw _ (by rw [List.getD_eq_getElem?_getD, List.getElem?_eq_getElem hi2]; exact List.getElem_mem hi2)
    have e : newFo vs (i : Int) = ⟨-1, -1, -1, 1, vs.getD i 0, vs.getD i 0, vs.getD i 0, 0, false⟩ := rfl
    have eq : sq (.nd (i : Int) (vs.getD i 0) 0 false .nil .nil) 0 false = [((i : Int), vs.getD i 0)] := by
      show [((i : Int), wrap64 (vs.getD i 0 + 0))] = _
      rw [wrap0 hv]
    refine ⟨.nd (i : Int) (vs.getD i 0) 0 false .nil .nil, ⟨Int.natCast_nonneg i, by rw [e]; rfl, by rw [e]; rfl, by rw [e]; rfl, by rw [e], by rw [e], by rw [e], ?_, trivial, trivial⟩, trivial, eq, by simp, by simp⟩
    rw [eq, e]
    refine ⟨rfl, ⟨hv, hv, hv⟩, fun y hy => ?_, ⟨_, List.mem_singleton.2 rfl, (wrap0 hv).symm⟩, ⟨_, List.mem_singleton.2 rfl, (wrap0 hv).symm⟩⟩
    rw [List.mem_singleton] at hy
    subst hy
    show wrap64 (vs.getD i 0 + 0) ≤ vs.getD i 0 ∧ vs.getD i 0 ≤ wrap64 (vs.getD i 0 + 0)
    rw [wrap0 hv]
    omega
  · obtain ⟨i, hi, rfl⟩ := List.mem_map.1 hW
    simp
  · rw [ones_fst]
    exact List.Pairwise.map _ (fun a b h e => h (by omega)) List.nodup_range
  · rw [ones_fst, List.mem_map]
    constructor
    · rintro ⟨i, hi, rfl⟩
      have := List.mem_range.1 hi
      omega
    · intro h
      exact ⟨x.toNat, List.mem_range.2 (by omega), by omega⟩
theorem Fs.keepM {s s' : Fo} {N : Int} {W : List (Int × Int)} {Ws : List (List (Int × Int))} {t : Tr} (h : Fs s N Ws) (hW : W ∈ Ws) (ht : Zip s' [] t W) (hf : ∀ z, z ≠ -1 → z ∉ W.map Prod.fst → s' z = s z) : Fs s' N Ws :=
  ((h.perm (List.perm_cons_erase hW)).keep ht hf).perm (List.perm_cons_erase hW).symm

end Go.Proofs.YtcnmbgijehnchaaW.Splay
