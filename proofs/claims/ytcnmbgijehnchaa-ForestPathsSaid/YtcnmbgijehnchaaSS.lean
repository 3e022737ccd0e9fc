/- Walks by hand, put together. -/
import Derived.Test.YtcnmbgijehnchaaS18
import Derived.Test.YtcnmbgijehnchaaS13
set_option linter.unusedVariables false
set_option linter.unusedSimpArgs false
/- splay: the calls, told of a forest's rows alone. -/
namespace Go.Proofs.YtcnmbgijehnchaaW.Splay
open Go.RowKit Go.Shelf Go.Proofs.YtcnmbgijehnchaaW.PrintWords Go.Proofs.YtcnmbgijehnchaaW.PrintLast Go.Proofs.YtcnmbgijehnchaaW.PrintMore Go.Proofs.YtcnmbgijehnchaaW.Mine
theorem nod_len : ∀ (n : Nat) (l : List Int), l.Nodup → (∀ x ∈ l, 0 ≤ x ∧ x < (n : Int)) → l.length ≤ n
  | 0, [], _, _ => Nat.le_refl _
  | 0, x :: l, _, h => by have := h x List.mem_cons_self; omega
  | n + 1, l, hn, h => by
    have h1 := nod_len n (l.erase (n : Int)) (hn.erase _) (fun x hx => by
      have h2 := h x (List.mem_of_mem_erase hx)
      have h3 : x ≠ (n : Int) := fun e => by
        subst e
        exact (List.Nodup.mem_erase_iff hn).1 hx |>.1 rfl
      omega)
    have h2 := List.length_erase (a := (n : Int)) (l := l)
    split at h2 <;> omega
/-- A forest that stands in the world, told by its rows. -/
structure Fm (w0 w : World) (gs gn N cap : Nat) (Ws : List (List (Int × Int))) : Prop where
  ex : ∃ s, St w0 w gs gn N cap s ∧ Fs s (N : Int) Ws
  bd : ∀ W ∈ Ws, ∀ y ∈ W, -4611686018427387904 ≤ y.2 ∧ y.2 ≤ 4611686018427387904
section
variable {w0 w W1 : World} {gs gn N cap : Nat} {Ws Vs : List (List (Int × Int))} {W : List (Int × Int)} {x y a b v m d : Int}
theorem Fm.perm (h : Fm w0 w gs gn N cap Ws) (hp : Ws.Perm Vs) : Fm w0 w gs gn N cap Vs := by
  obtain ⟨⟨s, h1, h2⟩, h3⟩ := h
  exact ⟨⟨s, h1, h2.perm hp⟩, fun W hW => h3 W (hp.mem_iff.2 hW)⟩
theorem Fm.below (h : Fm w0 w gs gn N cap Ws) (hb : Below w.heap.size w W1) : Fm w0 W1 gs gn N cap Ws := by
  obtain ⟨⟨s, h1, h2⟩, h3⟩ := h
  exact ⟨⟨s, h1.below hb, h2⟩, h3⟩
theorem Fm.drew (h : Fm w0 w gs gn N cap Ws) : Fm w0 w.drew gs gn N cap Ws := h.below (below_drew (Below.refl _ _))
theorem Fm.drewN (h : Fm w0 w gs gn N cap Ws) (n : Nat) : Fm w0 (w.drewN n) gs gn N cap Ws := h.below (pw_below_drewN (Below.refl _ _) n)
theorem Fm.ke (h : Fm w0 w gs gn N cap Ws) : gs < w.heap.size ∧ gn < w.heap.size ∧ w0.heap.size ≤ gs ∧ w0.heap.size ≤ gn ∧ w0.heap.size ≤ w.heap.size ∧ gs ≠ gn := by
  obtain ⟨⟨s, h1, h2⟩, h3⟩ := h
  exact h1.sp.ke
theorem Fm.old (h : Fm w0 w gs gn N cap Ws) : Below w0.heap.size w0 w := by
  obtain ⟨⟨s, h1, h2⟩, h3⟩ := h
  exact h1.sp.below
theorem Fm.small (h : Fm w0 w gs gn N cap Ws) : N ≤ 3000 := by
  obtain ⟨⟨s, h1, h2⟩, h3⟩ := h
  exact h1.small
theorem Fm.grown (h : Fm w0 w gs gn N cap Ws) {row : Option Nat} (hg : w.grownBy W1 row) (hr : ∀ r, row = some r → w0.heap.size ≤ r ∧ r ≠ gs ∧ r ≠ gn) : Fm w0 W1 gs gn N cap Ws := by
  obtain ⟨⟨s, h1, h2⟩, h3⟩ := h
  exact ⟨⟨s, ⟨h1.sp.grown hg hr, h1.good, h1.small⟩, h2⟩, h3⟩
theorem Fm.nodup (h : Fm w0 w gs gn N cap Ws) : (Ws.flatten.map Prod.fst).Nodup := by
  obtain ⟨⟨s, h1, h2⟩, h3⟩ := h
  exact h2.nod
theorem Fm.cover (h : Fm w0 w gs gn N cap Ws) (x : Int) : x ∈ Ws.flatten.map Prod.fst ↔ 0 ≤ x ∧ x < (N : Int) := by
  obtain ⟨⟨s, h1, h2⟩, h3⟩ := h
  exact h2.cover x
theorem Fm.ne (h : Fm w0 w gs gn N cap Ws) (hW : W ∈ Ws) : W ≠ [] := by
  obtain ⟨⟨s, h1, h2⟩, h3⟩ := h
  exact h2.ne W hW
theorem Fm.len (h : Fm w0 w gs gn N cap Ws) : Ws.flatten.length ≤ N := by
  have h1 := nod_len N (Ws.flatten.map Prod.fst) h.nodup (fun x hx => (h.cover x).1 hx)
  rwa [List.length_map] at h1
theorem mem_flat {W : List (Int × Int)} {Ws : List (List (Int × Int))} (hW : W ∈ Ws) {x : Int} (hx : x ∈ W.map Prod.fst) : x ∈ Ws.flatten.map Prod.fst := by
  obtain ⟨y, hy, rfl⟩ := List.mem_map.1 hx
  exact List.mem_map.2 ⟨y, List.mem_flatten.2 ⟨W, hW, hy⟩, rfl⟩
theorem Fm.item (h : Fm w0 w gs gn N cap Ws) (hW : W ∈ Ws) (hx : x ∈ W.map Prod.fst) : ∃ i : Nat, i < N ∧ x = (i : Int) := by
  have := (h.cover x).1 (mem_flat hW hx)
  exact ⟨x.toNat, by omega, by omega⟩
theorem Fm.row_of (h : Fm w0 w gs gn N cap Ws) (h0 : 0 ≤ x) (h1 : x < (N : Int)) : ∃ W ∈ Ws, x ∈ W.map Prod.fst := by
  obtain ⟨y, hy, rfl⟩ := List.mem_map.1 ((h.cover x).2 ⟨h0, h1⟩)
  obtain ⟨W, hW, hy⟩ := List.mem_flatten.1 hy
  exact ⟨W, hW, List.mem_map.2 ⟨y, hy, rfl⟩⟩
theorem Fm.rlen (h : Fm w0 w gs gn N cap Ws) (hW : W ∈ Ws) : W.length ≤ N := by
  have h1 := h.len
  have h2 : W.length ≤ Ws.flatten.length := (List.sublist_flatten_of_mem hW).length_le
  omega
/-- Who lies in two rows lies in one. -/
theorem nod_same : ∀ {Ws : List (List (Int × Int))}, (Ws.flatten.map Prod.fst).Nodup → ∀ {V W : List (Int × Int)} {x : Int}, V ∈ Ws → W ∈ Ws → x ∈ V.map Prod.fst → x ∈ W.map Prod.fst → V = W
  | [], _, _, _, _, h, _, _, _ => by cases h
  | U :: Ws, hn, V, W, x, hV, hW, xV, xW => by
    rw [List.flatten_cons, List.map_append] at hn
    obtain ⟨_, h2, h3⟩ := List.nodup_append.1 hn
    rcases List.mem_cons.1 hV with e1 | k1 <;> rcases List.mem_cons.1 hW with e2 | k2
    · exact e1.trans e2.symm
    · exact absurd rfl (h3 x (e1 ▸ xV) x (mem_flat k2 xW))
    · exact absurd rfl (h3 x (e2 ▸ xW) x (mem_flat k1 xV))
    · exact nod_same h2 k1 k2 xV xW
theorem Fm.bdP (h : Fm w0 w gs gn N cap Ws) (hp : Ws.Perm (W :: Vs)) : (∀ y ∈ W, -4611686018427387904 ≤ y.2 ∧ y.2 ≤ 4611686018427387904) ∧ ∀ V ∈ Vs, ∀ y ∈ V, -4611686018427387904 ≤ y.2 ∧ y.2 ≤ 4611686018427387904 :=
  ⟨h.bd W (hp.mem_iff.2 List.mem_cons_self), fun V hV => h.bd V (hp.mem_iff.2 (List.mem_cons_of_mem _ hV))⟩
theorem Fm.turn (h : Fm w0 w gs gn N cap Ws) (hp : Ws.Perm (W :: Vs)) (hx : x ∈ W.map Prod.fst) :
    Calls Try.prog 17 #[.pointer (some ⟨gs, 0, none⟩), .int .i64 x] w fun e w' => (∃ v, e = .returned v) ∧ Fm w0 w' gs gn N cap (W.reverse :: Vs) ∧ Ke gs gn w w' := by
  have hW : W ∈ Ws := hp.mem_iff.2 List.mem_cons_self
  obtain ⟨i, hi, rfl⟩ := h.item hW hx
  obtain ⟨b1, b2⟩ := h.bdP hp
  obtain ⟨⟨s, h1, h2⟩, h3⟩ := h
  have h2 := h2.perm hp
  obtain ⟨t, hz⟩ := h2.tree W List.mem_cons_self
  obtain ⟨s1, v, l, r, ⟨K, hK⟩, z1, f1⟩ := splay_ok hz hx
  refine (turn_calls (Pt.refl h1) K hi (hK K (Nat.le_refl _))).mono ?_
  rintro e w' ⟨he, hP⟩
  have z2 := turn_ok z1
  refine ⟨he, ⟨⟨_, hP.1, h2.step (Vs := [W.reverse]) (fun V hV => ?_) (fun V hV => ?_) ?_ (fun z z0 z3 => ?_)⟩, fun V hV y hy => ?_⟩, hP.2⟩
  · rw [List.mem_singleton] at hV
    subst hV
    exact ⟨_, z2⟩
  · rw [List.mem_singleton] at hV
    subst hV
    have := h2.ne W List.mem_cons_self
    simpa using this
  · simp only [List.flatten_cons, List.flatten_nil, List.append_nil, List.map_reverse]
    exact List.reverse_perm _
  · rw [← f1 z z0 z3]
    exact lay_ne (t := .nd (i : Int) v 0 false l r) (fun hc => z3 ((z1.mem z).1 (List.mem_append_left _ hc)))
  · rcases List.mem_cons.1 hV with rfl | hV
    · exact b1 y (List.mem_reverse.1 hy)
    · exact b2 V hV y hy
theorem Fm.value (h : Fm w0 w gs gn N cap Ws) (hW : W ∈ Ws) (hx : (x, v) ∈ W) :
    Calls Try.prog 25 #[.pointer (some ⟨gs, 0, none⟩), .int .i64 x] w fun e w' => e = .returned (.int .i64 v) ∧ Fm w0 w' gs gn N cap Ws ∧ Ke gs gn w w' := by
  obtain ⟨i, hi, rfl⟩ := h.item hW (List.mem_map.2 ⟨_, hx, rfl⟩)
  obtain ⟨⟨s, h1, h2⟩, h3⟩ := h
  obtain ⟨t, hz⟩ := h2.tree W hW
  obtain ⟨s1, t1, ⟨K, hK⟩, z1, f1⟩ := value_ok hz hx
  refine (value_calls (Pt.refl h1) K hi (hK K (Nat.le_refl _))).mono ?_
  rintro e w' ⟨he, hP⟩
  exact ⟨he, ⟨⟨_, hP.1, h2.keepM hW z1 f1⟩, h3⟩, hP.2⟩
theorem Fm.place (h : Fm w0 w gs gn N cap Ws) {L R : List (Int × Int)} (hW : L ++ (x, v) :: R ∈ Ws) :
    Calls Try.prog 21 #[.pointer (some ⟨gs, 0, none⟩), .int .i64 x] w fun e w' => e = .returned (.int .i64 (L.length : Int)) ∧ Fm w0 w' gs gn N cap Ws ∧ Ke gs gn w w' := by
  have hx : x ∈ (L ++ (x, v) :: R).map Prod.fst := by simp
  obtain ⟨i, hi, rfl⟩ := h.item hW hx
  obtain ⟨⟨s, h1, h2⟩, h3⟩ := h
  obtain ⟨t, hz⟩ := h2.tree _ hW
  obtain ⟨s1, t1, L', R', v', he, ⟨K, hK⟩, z1, f1⟩ := place_ok hz hx
  obtain ⟨rfl, _, _⟩ := key_uniq he hz.nodup
  refine (place_calls (Pt.refl h1) K hi (hK K (Nat.le_refl _))).mono ?_
  rintro e w' ⟨he, hP⟩
  exact ⟨he, ⟨⟨_, hP.1, h2.keepM hW z1 f1⟩, h3⟩, hP.2⟩
theorem Fm.at (h : Fm w0 w gs gn N cap Ws) (hW : W ∈ Ws) (hx : x ∈ W.map Prod.fst) (pl : Int) :
    Calls Try.prog 22 #[.pointer (some ⟨gs, 0, none⟩), .int .i64 x, .int .i64 pl] w fun e w' => e = .returned (.int .i64 (if pl < 0 then -1 else (W.map Prod.fst).getD pl.toNat (-1))) ∧ Fm w0 w' gs gn N cap Ws ∧ Ke gs gn w w' := by
  obtain ⟨i, hi, rfl⟩ := h.item hW hx
  obtain ⟨⟨s, h1, h2⟩, h3⟩ := h
  obtain ⟨t, hz⟩ := h2.tree W hW
  obtain ⟨s1, t1, ⟨K, hK⟩, z1, f1⟩ := at_ok (pl := pl) hz hx
  refine (at_calls (Pt.refl h1) K hi (hK K (Nat.le_refl _))).mono ?_
  rintro e w' ⟨he, hP⟩
  exact ⟨he, ⟨⟨_, hP.1, h2.keepM hW z1 f1⟩, h3⟩, hP.2⟩
theorem Fm.first (h : Fm w0 w gs gn N cap Ws) {R : List (Int × Int)} (hW : (y, v) :: R ∈ Ws) (hx : x ∈ ((y, v) :: R).map Prod.fst) :
    Calls Try.prog 23 #[.pointer (some ⟨gs, 0, none⟩), .int .i64 x] w fun e w' => e = .returned (.int .i64 y) ∧ Fm w0 w' gs gn N cap Ws ∧ Ke gs gn w w' := by
  obtain ⟨i, hi, rfl⟩ := h.item hW hx
  obtain ⟨⟨s, h1, h2⟩, h3⟩ := h
  obtain ⟨t, hz⟩ := h2.tree _ hW
  obtain ⟨s1, v1, l, r, ⟨K, hK⟩, z1, f1⟩ := splay_ok hz hx
  obtain ⟨s2, y2, vy, r2, ⟨K2, hK2⟩, z2, e2, f2⟩ := first_ok z1
  injection e2 with e3 e4
  injection e3 with e5 e6
  subst e5
  refine (first_calls (Pt.refl h1) (K + K2) hi (hK _ (by omega)) (hK2 _ (by omega))).mono ?_
  rintro e w' ⟨he, hP, _⟩
  exact ⟨he, ⟨⟨_, hP.1, h2.keepM hW z2 (fun z a1 a2 => (f2 z a1 a2).trans (f1 z a1 a2))⟩, h3⟩, hP.2⟩
theorem Fm.last (h : Fm w0 w gs gn N cap Ws) {L : List (Int × Int)} (hW : L ++ [(y, v)] ∈ Ws) (hx : x ∈ (L ++ [(y, v)]).map Prod.fst) :
    Calls Try.prog 24 #[.pointer (some ⟨gs, 0, none⟩), .int .i64 x] w fun e w' => e = .returned (.int .i64 y) ∧ Fm w0 w' gs gn N cap Ws ∧ Ke gs gn w w' := by
  obtain ⟨i, hi, rfl⟩ := h.item hW hx
  obtain ⟨⟨s, h1, h2⟩, h3⟩ := h
  obtain ⟨t, hz⟩ := h2.tree _ hW
  obtain ⟨s1, v1, l, r, ⟨K, hK⟩, z1, f1⟩ := splay_ok hz hx
  obtain ⟨s2, y2, vy, r2, ⟨K2, hK2⟩, z2, e2, f2⟩ := last_ok z1
  have e3 := List.append_inj_right' e2 rfl
  injection e3 with e4 _
  injection e4 with e5 e6
  subst e5
  refine (last_calls (Pt.refl h1) (K + K2) hi (hK _ (by omega)) (hK2 _ (by omega))).mono ?_
  rintro e w' ⟨he, hP, _⟩
  exact ⟨he, ⟨⟨_, hP.1, h2.keepM hW z2 (fun z a1 a2 => (f2 z a1 a2).trans (f1 z a1 a2))⟩, h3⟩, hP.2⟩
/-- A least item that is the first one. -/
def FirstLeast (W : List (Int × Int)) (y : Int) : Prop := ∃ L m R, W = L ++ (y, m) :: R ∧ (∀ q ∈ L, m < q.2) ∧ ∀ q ∈ R, m ≤ q.2
theorem Fm.least (h : Fm w0 w gs gn N cap Ws) (hW : W ∈ Ws) (hx : x ∈ W.map Prod.fst) :
    Calls Try.prog 16 #[.pointer (some ⟨gs, 0, none⟩), .int .i64 x] w fun e w' => (∃ y, e = .returned (.int .i64 y) ∧ FirstLeast W y) ∧ Fm w0 w' gs gn N cap Ws ∧ Ke gs gn w w' := by
  obtain ⟨i, hi, rfl⟩ := h.item hW hx
  obtain ⟨⟨s, h1, h2⟩, h3⟩ := h
  obtain ⟨t, hz⟩ := h2.tree W hW
  obtain ⟨s1, t1, L, y, m, R, e1, e2, e3, ⟨K, hK⟩, z1, f1⟩ := least_ok hz hx
  refine (least_calls (Pt.refl h1) K hi (hK K (Nat.le_refl _))).mono ?_
  rintro e w' ⟨he, hP⟩
  exact ⟨⟨y, he, L, m, R, e1, e2, e3⟩, ⟨⟨_, hP.1, h2.keepM hW z1 f1⟩, h3⟩, hP.2⟩
theorem Fm.least_out (h : Fm w0 w gs gn N cap Ws) (hx : ¬ (0 ≤ x ∧ x < (N : Int))) :
    Calls Try.prog 16 #[.pointer (some ⟨gs, 0, none⟩), .int .i64 x] w fun e w' => e = .returned (.int .i64 (-1)) ∧ w' = w := by
  obtain ⟨⟨s, h1, h2⟩, h3⟩ := h
  exact Splay.least_out (Pt.refl h1) hx
/-- What a cut leaves. -/
def cutL (L R : List (Int × Int)) (Vs : List (List (Int × Int))) : List (List (Int × Int)) := (if L = [] then [] else [L]) ++ R :: Vs
theorem Fm.split (h : Fm w0 w gs gn N cap Ws) {L R : List (Int × Int)} (hp : Ws.Perm ((L ++ (x, v) :: R) :: Vs)) :
    Calls Try.prog 18 #[.pointer (some ⟨gs, 0, none⟩), .int .i64 x] w fun e w' => e = .returned (.int .i64 0) ∧ Fm w0 w' gs gn N cap (cutL L ((x, v) :: R) Vs) ∧ Ke gs gn w w' := by
  have hW : L ++ (x, v) :: R ∈ Ws := hp.mem_iff.2 List.mem_cons_self
  have hx : x ∈ (L ++ (x, v) :: R).map Prod.fst := by simp
  obtain ⟨i, hi, rfl⟩ := h.item hW hx
  obtain ⟨b1, b2⟩ := h.bdP hp
  obtain ⟨⟨s, h1, h2⟩, h3⟩ := h
  have h2 := h2.perm hp
  obtain ⟨t, hz⟩ := h2.tree _ List.mem_cons_self
  obtain ⟨s1, v1, l, r, ⟨K, hK⟩, z1, f1⟩ := splay_ok hz hx
  have hm := z1.mid
  obtain ⟨eL, ev, eR⟩ := key_uniq hm hz.nodup
  refine (split_calls (Pt.refl h1) K hi (hK K (Nat.le_refl _))).mono ?_
  rintro e w' ⟨he, hP⟩
  have hbd : ∀ V ∈ cutL L (((i : Int), v) :: R) Vs, ∀ y ∈ V, -4611686018427387904 ≤ y.2 ∧ y.2 ≤ 4611686018427387904 := by
    intro V hV y hy
    unfold cutL at hV
    rcases List.mem_append.1 hV with hV | hV
    · split at hV
      · cases hV
      · rw [List.mem_singleton] at hV
        subst hV
        exact b1 y (List.mem_append_left _ hy)
    · rcases List.mem_cons.1 hV with rfl | hV
      · exact b1 y (List.mem_append_right _ hy)
      · exact b2 V hV y hy
  rcases split_ok z1 with ⟨hl, e1⟩ | ⟨hl, z2, z3, f2⟩
  · subst hl
    have hL : L = [] := eL
    subst hL
    rw [e1] at hP
    exact ⟨he, ⟨⟨_, hP.1, h2.keep z1 f1⟩, hbd⟩, hP.2⟩
  · have hL : L ≠ [] := fun e => hl (sq_nil (eL ▸ e))
    have ec : cutL L (((i : Int), v) :: R) Vs = [L, ((i : Int), v) :: R] ++ Vs := by
      unfold cutL
      rw [if_neg hL]
      rfl
    rw [← ev, ← eR] at z3
    rw [← eL] at z2
    refine ⟨he, ⟨⟨_, hP.1, ?_⟩, hbd⟩, hP.2⟩
    rw [ec]
    refine h2.step (fun V hV => ?_) (fun V hV => ?_) ?_ (fun z z0 z4 => (f2 z z0 z4).trans (f1 z z0 z4))
    · rcases List.mem_cons.1 hV with rfl | hV
      · exact ⟨_, z2⟩
      · rw [List.mem_singleton] at hV
        subst hV
        exact ⟨_, z3⟩
    · rcases List.mem_cons.1 hV with rfl | hV
      · exact hL
      · rw [List.mem_singleton] at hV
        subst hV
        simp
    · simp
theorem Fm.join (h : Fm w0 w gs gn N cap Ws) {Wa Wb : List (Int × Int)} (hp : Ws.Perm (Wa :: Wb :: Vs)) (xa : a ∈ Wa.map Prod.fst) (xb : b ∈ Wb.map Prod.fst) :
    Calls Try.prog 15 #[.pointer (some ⟨gs, 0, none⟩), .int .i64 a, .int .i64 b] w fun e w' => e = .returned (.int .i64 0) ∧ Fm w0 w' gs gn N cap ((Wa ++ Wb) :: Vs) ∧ Ke gs gn w w' := by
  have hA : Wa ∈ Ws := hp.mem_iff.2 List.mem_cons_self
  have hB : Wb ∈ Ws := hp.mem_iff.2 (List.mem_cons_of_mem _ List.mem_cons_self)
  obtain ⟨i, hi, rfl⟩ := h.item hA xa
  obtain ⟨j, hj, rfl⟩ := h.item hB xb
  have hlen := h.len
  have hsm := h.small
  have hbd := h.bd
  obtain ⟨⟨s, h1, h2⟩, h3⟩ := h
  have h2 := h2.perm hp
  obtain ⟨ta, za⟩ := h2.tree Wa List.mem_cons_self
  obtain ⟨tb, zb⟩ := h2.tree Wb (List.mem_cons_of_mem _ List.mem_cons_self)
  have hn := h2.nod
  rw [List.flatten_cons, List.flatten_cons, ← List.append_assoc, List.map_append] at hn
  have hn1 := (List.nodup_append.1 hn).1
  have hl2 : (Wa ++ Wb).length ≤ 1000000 := by
    have h4 := hp.flatten.length_eq
    rw [List.flatten_cons, List.flatten_cons, ← List.append_assoc, List.length_append] at h4
    omega
  have hne : i ≠ j := fun e => by
    subst e
    rw [List.map_append] at hn1
    exact (List.nodup_append.1 hn1).2.2 _ xa _ xb rfl
  obtain ⟨s1, t1, ⟨K, hK⟩, z1, f1⟩ := join_ok za zb xa xb hn1 hl2
  refine (join_calls (Pt.refl h1) K hi hj hne (hK K (Nat.le_refl _))).mono ?_
  rintro e w' ⟨he, hP⟩
  refine ⟨he, ⟨⟨_, hP.1, ?_⟩, fun V hV y hy => ?_⟩, hP.2⟩
  · have hperm : (((Wa ++ Wb) :: Vs).flatten).Perm (Wa :: Wb :: Vs).flatten := by
      rw [List.flatten_cons, List.flatten_cons, List.flatten_cons, List.append_assoc]
    have hpm := hperm.map Prod.fst
    refine ⟨fun V hV => ?_, fun V hV => ?_, hpm.nodup_iff.2 h2.nod, fun x => hpm.mem_iff.trans (h2.cover x)⟩
    · rcases List.mem_cons.1 hV with rfl | hV
      · exact ⟨_, z1⟩
      · obtain ⟨t, hz⟩ := h2.tree V (List.mem_cons_of_mem _ (List.mem_cons_of_mem _ hV))
        refine ⟨t, hz.frame (fun z hzV => f1 z ?_ (fun hzW => ?_))⟩
        · have := (h2.cover z).1 (mem_flat (List.mem_cons_of_mem _ (List.mem_cons_of_mem _ hV)) hzV)
          omega
        · exact (List.nodup_append.1 hn).2.2 z hzW z (mem_flat hV hzV) rfl
    · rcases List.mem_cons.1 hV with rfl | hV
      · have := h2.ne Wa List.mem_cons_self
        intro e
        exact this (List.append_eq_nil_iff.1 e).1
      · exact h2.ne V (List.mem_cons_of_mem _ (List.mem_cons_of_mem _ hV))
  · rcases List.mem_cons.1 hV with rfl | hV
    · rcases List.mem_append.1 hy with hy | hy
      · exact hbd Wa hA y hy
      · exact hbd Wb hB y hy
    · exact hbd V (hp.mem_iff.2 (List.mem_cons_of_mem _ (List.mem_cons_of_mem _ hV))) y hy
theorem Fm.join_same (h : Fm w0 w gs gn N cap Ws) (hW : W ∈ Ws) (xa : a ∈ W.map Prod.fst) (xb : b ∈ W.map Prod.fst) :
    Calls Try.prog 15 #[.pointer (some ⟨gs, 0, none⟩), .int .i64 a, .int .i64 b] w fun e w' => e = .returned (.int .i64 5) ∧ Fm w0 w' gs gn N cap Ws ∧ Ke gs gn w w' := by
  obtain ⟨i, hi, rfl⟩ := h.item hW xa
  obtain ⟨j, hj, rfl⟩ := h.item hW xb
  obtain ⟨⟨s, h1, h2⟩, h3⟩ := h
  by_cases hne : i = j
  · subst hne
    refine (join_self (Pt.refl h1) hi).mono ?_
    rintro e w' ⟨he, hP⟩
    exact ⟨he, ⟨⟨_, hP.1, h2⟩, h3⟩, hP.2⟩
  · obtain ⟨t, hz⟩ := h2.tree W hW
    obtain ⟨s1, t1, ⟨K, hK⟩, z1, f1⟩ := Splay.join_same hz xa xb
    refine (join_calls (Pt.refl h1) K hi hj hne (hK K (Nat.le_refl _))).mono ?_
    rintro e w' ⟨he, hP⟩
    exact ⟨he, ⟨⟨_, hP.1, h2.keepM hW z1 f1⟩, h3⟩, hP.2⟩
theorem Fm.add (h : Fm w0 w gs gn N cap Ws) (hp : Ws.Perm (W :: Vs)) (hx : x ∈ W.map Prod.fst) (hd : -9223372036854775808 ≤ d ∧ d ≤ 9223372036854775807) :
    Calls Try.prog 26 #[.pointer (some ⟨gs, 0, none⟩), .int .i64 x, .int .i64 d] w fun e w' => ((e = .returned (.int .i64 0) ∧ (∀ y ∈ W, -4611686018427387904 ≤ y.2 + d ∧ y.2 + d ≤ 4611686018427387904) ∧ Fm w0 w' gs gn N cap ((W.map fun y => (y.1, y.2 + d)) :: Vs)) ∨
      (e = .returned (.int .i64 3) ∧ (∃ y ∈ W, ¬ (-4611686018427387904 ≤ y.2 + d ∧ y.2 + d ≤ 4611686018427387904)) ∧ Fm w0 w' gs gn N cap (W :: Vs))) ∧ Ke gs gn w w' := by
  have hW : W ∈ Ws := hp.mem_iff.2 List.mem_cons_self
  obtain ⟨i, hi, rfl⟩ := h.item hW hx
  obtain ⟨b1, b2⟩ := h.bdP hp
  obtain ⟨⟨s, h1, h2⟩, h3⟩ := h
  have h2 := h2.perm hp
  obtain ⟨t, hz⟩ := h2.tree W List.mem_cons_self
  obtain ⟨s1, t1, f1, ⟨e1, ⟨K, hK⟩, z1⟩ | ⟨e1, ⟨K, hK⟩, z1⟩⟩ := add_ok hz hx hd b1
  · refine (add_calls (Pt.refl h1) K hi (hK K (Nat.le_refl _))).mono ?_
    rintro e w' ⟨he, hP⟩
    refine ⟨.inl ⟨he, e1, ⟨⟨_, hP.1, h2.step (Vs := [W.map fun y : Int × Int => (y.1, y.2 + d)]) (fun V hV => ?_) (fun V hV => ?_) ?_ f1⟩, fun V hV y hy => ?_⟩⟩, hP.2⟩
    · rw [List.mem_singleton] at hV
      subst hV
      exact ⟨_, z1⟩
    · rw [List.mem_singleton] at hV
      subst hV
      have := h2.ne W List.mem_cons_self
      simpa using this
    · simp [List.map_map, Function.comp_def]
    · rcases List.mem_cons.1 hV with rfl | hV
      · obtain ⟨q, hq, rfl⟩ := List.mem_map.1 hy
        exact e1 q hq
      · exact b2 V hV y hy
  · refine (add_calls (Pt.refl h1) K hi (hK K (Nat.le_refl _))).mono ?_
    rintro e w' ⟨he, hP⟩
    refine ⟨.inr ⟨he, e1, ⟨⟨_, hP.1, h2.keep z1 f1⟩, fun V hV y hy => ?_⟩⟩, hP.2⟩
    rcases List.mem_cons.1 hV with rfl | hV
    · exact b1 y hy
    · exact b2 V hV y hy
theorem Fm.row (h : Fm w0 w gs gn N cap Ws) (hW : W ∈ Ws) (hx : x ∈ W.map Prod.fst) :
    Calls Try.prog 20 #[.pointer (some ⟨gs, 0, none⟩), .int .i64 x] w fun e w' => ∃ u, e = .returned u ∧ w'.ownsRow w.heap.size 3 1 u W.length (ints (W.map Prod.fst)) ∧ Fm w0 w' gs gn N cap Ws ∧ Below w.heap.size w w' := by
  have hl := h.rlen hW
  have hs := h.small
  obtain ⟨i, hi, rfl⟩ := h.item hW hx
  have h0 := h
  obtain ⟨⟨s, h1, h2⟩, h3⟩ := h
  obtain ⟨t, hz⟩ := h2.tree W hW
  refine (row_calls (Pt.refl h1) 4000000 (Nat.le_refl _) hi (by rw [List.length_map]; omega) (row_ok hz hx _ (Nat.le_refl _))).mono ?_
  rintro e w' ⟨u, he, hb, ho⟩
  rw [List.length_map] at ho
  exact ⟨u, he, ho, h0.below hb, hb⟩
theorem ones_bd {vs : List Int} (hv : ∀ v ∈ vs, -4611686018427387904 ≤ v ∧ v ≤ 4611686018427387904) : ∀ W ∈ ones vs, ∀ y ∈ W, -4611686018427387904 ≤ y.2 ∧ y.2 ≤ 4611686018427387904 := by
  intro W hW y hy
  obtain ⟨i, hi, rfl⟩ := List.mem_map.1 hW
  rw [List.mem_singleton] at hy
  subst hy
  have hi := List.mem_range.1 hi
  show _ ≤ vs.getD i 0 ∧ vs.getD i 0 ≤ _
  rw [getD_at hi]
  exact hv _ (List.getElem_mem hi)
theorem Fm.new {A : Option Addr} {vs : List Int} {c : Nat} (hb : Below w0.heap.size w0 w) (hr : Rds w A vs) (h1 : vs.length ≤ 3000) (h0 : 0 < vs.length) (hv : ∀ v ∈ vs, -4611686018427387904 ≤ v ∧ v ≤ 4611686018427387904) :
    Calls Try.prog 14 #[.slice A vs.length c] w fun e w' => e = .returned (.tuple #[.pointer (some ⟨w.heap.size, 0, none⟩), .int .i64 0]) ∧ Below w.heap.size w w' ∧ ∃ gn cap, Fm w0 w' w.heap.size gn vs.length cap (ones vs) := by
  refine (new_calls hb hr h1).mono ?_
  rintro e w' ⟨hB, ⟨j, hj, ho, _⟩ | ⟨_, he, v, hx, ho⟩⟩
  · rw [getD_at hj] at ho
    have := hv _ (List.getElem_mem hj)
    omega
  · obtain ⟨hl, ⟨_, hn⟩ | ⟨g, cap, cur, rfl, hg, hh, h2, h3, h4, h5⟩⟩ := ho
    · omega
    · have hz := hb.size
      have hN : ∀ i : Nat, i < vs.length → Nc cur i (newFo vs (i : Int)) := by
        intro i hi
        have at_ : ∀ j u, j < 9 → (ndc (vs.getD i 0))[j]? = some u → cur[i * 9 + j]? = some u := fun j u hj hu => by
          rw [← ndcs_at vs i j hi hj, ← h5, List.getElem?_take] at hu
          split at hu
          · rwa [Array.getElem?_toList] at hu
          · cases hu
        exact ⟨at_ 0 _ (by omega) rfl, at_ 1 _ (by omega) rfl, at_ 2 _ (by omega) rfl, at_ 3 _ (by omega) rfl, at_ 4 _ (by omega) rfl, at_ 5 _ (by omega) rfl, at_ 6 _ (by omega) rfl, at_ 7 _ (by omega) rfl, at_ 8 _ (by omega) rfl⟩
      refine ⟨he, hB, g, cap, ⟨newFo vs, ⟨⟨hb.trans (hB.mono hz), ⟨0, ?_⟩, ⟨cur, ?_, hN⟩⟩, fun i hi => ⟨.inl rfl, .inl rfl, .inl rfl⟩, h1⟩, new_ok (fun v hv' => ?_)⟩, ones_bd hv⟩
      · exact ⟨by unfold og; simp, hz, hx⟩
      · refine ⟨?_, by omega, hh⟩
        unfold og
        rw [if_neg (by omega), if_pos rfl]
      · have := hv v hv'
        unfold wrap64
        omega
theorem new_out {A : Option Addr} {vs : List Int} {c : Nat} (hb : Below w0.heap.size w0 w) (hr : Rds w A vs) (h1 : vs.length ≤ 3000) (hv : ¬ ∀ v ∈ vs, -4611686018427387904 ≤ v ∧ v ≤ 4611686018427387904) :
    Calls Try.prog 14 #[.slice A vs.length c] w fun e w' => e = .returned (.tuple #[.pointer none, .int .i64 3]) ∧ Below w.heap.size w w' := by
  refine (new_calls hb hr h1).mono ?_
  rintro e w' ⟨hB, ⟨j, hj, ho, he⟩ | ⟨hv', _⟩⟩
  · exact ⟨he, hB⟩
  · exact absurd hv' hv
end
end Go.Proofs.YtcnmbgijehnchaaW.Splay
/- The laws' own small functions: pick, same (contracts by hand). -/
namespace Go.Proofs.YtcnmbgijehnchaaW.Splay
open Go.RowKit Go.Shelf Go.Proofs.YtcnmbgijehnchaaW.PrintWords Go.Proofs.YtcnmbgijehnchaaW.PrintLast Go.Proofs.YtcnmbgijehnchaaW.PrintMore Go.Proofs.YtcnmbgijehnchaaW.Mine
attribute [local go_sem] max2_int min2_int max_two min_two max_three min_three max_four min_four Oper.semAt_some
/-- Which of n things the raw number c speaks of. -/
def pk (c n : Int) : Int := if c < 0 then Int.tmod (-(c + 1)) n else Int.tmod c n
theorem pk_range {c n : Int} (hn : 0 < n) : 0 ≤ pk c n ∧ pk c n < n := by
  unfold pk
  split
  · exact ⟨Int.tmod_nonneg _ (by omega), Int.tmod_lt_of_pos _ hn⟩
  · exact ⟨Int.tmod_nonneg _ (by omega), Int.tmod_lt_of_pos _ hn⟩
theorem wf_bounds {c : Int} (h : (Lit.int .i64 c).wf = true) : -9223372036854775808 ≤ c ∧ c ≤ 9223372036854775807 := by
  simp [Lit.wf] at h
  obtain ⟨h1, h2⟩ := h
  have e : IntKind.i64.min = -9223372036854775808 := by decide
  rw [e] at h1
  exact ⟨h1, h2⟩
theorem pick_calls (w : World) {c n : Int} (h0 : -9223372036854775808 ≤ c) (h1 : c ≤ 9223372036854775807) (hn : 0 < n) :
    Calls Try.prog 13 #[.int .i64 c, .int .i64 n] w fun e w' => e = .returned (.int .i64 (pk c n)) ∧ w' = w := by
  have n0 : (n == 0) = false := by simp; omega
  unfold pk
  by_cases c3 : c < 0
  · have e1 : wrap64 (c + 1) = c + 1 := by unfold wrap64; omega
    have e2 : wrap64 (-(c + 1)) = -(c + 1) := by unfold wrap64; omega
    rw [if_pos c3]
    go_enter Try.func13, Try.ntmps13
    go_wp2
    go_ret
    exact ⟨congrArg (fun z => Ending.returned (.int .i64 z)) (show -((c + 1).tmod n) = _ from (Int.neg_tmod ..).symm), rfl⟩
  · rw [if_neg c3]
    have c4 : decide (c < 0) = false := decide_eq_false c3
    go_enter Try.func13, Try.ntmps13
    go_wp2
    go_ret
    exact ⟨congrArg (fun z => Ending.returned (.int .i64 z)) (show c % n = _ from (Int.tmod_eq_emod_of_nonneg (by omega)).symm), rfl⟩
theorem Rds.at {W : World} {A : Option Addr} {vs : List Int} (h : Rds W A vs) {j : Nat} (hj : j < vs.length) : ∃ a, A = some a ∧ W.cell? (a.add j) = some (.int .i64 vs[j]) := by
  rcases h with e | ⟨a, e, h⟩
  · subst e; simp at hj
  · exact ⟨a, e, (h j hj).1⟩
theorem Rds.below {W W1 : World} {A : Option Addr} {vs : List Int} (h : Rds W A vs) (hb : Below W.heap.size W W1) : Rds W1 A vs := by
  rcases h with e | ⟨a, e, h⟩
  · exact .inl e
  · refine .inr ⟨a, e, fun j hj => ⟨?_, Nat.lt_of_lt_of_le (h j hj).2 hb.size⟩⟩
    exact (hb.cell (p := a.add j) (by unfold Addr.add; split <;> exact (h j hj).2)).trans (h j hj).1
theorem Rds.kept {W W1 : World} {A : Option Addr} {vs : List Int} {gs gn : Nat} (h : Rds W A vs) (hk : Ke gs gn W W1) (hA : ∀ a, A = some a → a.block ≠ gs ∧ a.block ≠ gn) : Rds W1 A vs := by
  rcases h with e | ⟨a, e, h⟩
  · exact .inl e
  · refine .inr ⟨a, e, fun j hj => ⟨?_, Nat.lt_of_lt_of_le (h j hj).2 hk.size⟩⟩
    have h1 := hk.heap a.block (h j hj).2 (hA a e).1 (hA a e).2
    have h2 : (a.add j).block = a.block := by unfold Addr.add; split <;> rfl
    rw [← (h j hj).1]
    unfold World.cell?
    rw [h2, h1]
theorem Rds.own {W : World} {base e : Nat} {v : Value} {n : Nat} {xs : List Int} (h : W.ownsRow base e 1 v n (ints xs)) : ∃ A c, v = .slice A xs.length c ∧ xs.length ≤ c ∧ c ≤ maxLen ∧ Rds W A xs ∧ ∀ a, A = some a → base ≤ a.block ∧ a.off = 0 ∧ a.block < W.heap.size := by
  obtain ⟨hl, ⟨rfl, hn⟩ | ⟨g, cap, cur, rfl, hb, hh, h1, h2, h3, h4⟩⟩ := h
  · have hl2 : xs.length = n * 1 := by rw [← hl]; simp [ints]
    have : xs = [] := List.eq_nil_of_length_eq_zero (by omega)
    subst this
    exact ⟨none, 0, rfl, Nat.le_refl _, Nat.zero_le _, .inl rfl, fun a e => by cases e⟩
  · have hl2 : xs.length = n := by
      have : (ints xs).length = xs.length := by simp [ints]
      omega
    subst hl2
    refine ⟨_, cap, rfl, h1, h2, .inr ⟨_, rfl, fun j hj => ⟨?_, (Array.getElem?_eq_some_iff.1 hh).1⟩⟩, fun a e => by cases e; exact ⟨hb, rfl, (Array.getElem?_eq_some_iff.1 hh).1⟩⟩
    have e1 : (⟨g, 0, none⟩ : Addr).add j = ⟨g, j, none⟩ := by simp [Addr.add]; intro e; exact e.symm
    rw [e1]
    refine (blk_cell hh j).trans ?_
    have e2 : (ints xs)[j]? = some (.int .i64 xs[j]) := by simp [ints, hj]
    rw [← h4, List.getElem?_take] at e2
    split at e2
    · rwa [Array.getElem?_toList] at e2
    · cases e2
set_option maxHeartbeats 8000000 in
set_option maxRecDepth 100000 in
theorem same_calls {w : World} {A B : Option Addr} {xs ys : List Int} {c d : Nat} (ha : Rds w A xs) (hb : Rds w B ys) (hl : xs.length ≤ 1000000) (hl2 : ys.length ≤ 1000000) :
    Calls Try.prog 19 #[.slice A xs.length c, .slice B ys.length d] w fun e w' => e = .returned (.bool (decide (xs = ys))) ∧ Drawn0 w w' := by
  have HA := Aside0.mk ha
  have HB := Aside0.mk hb
  clear ha hb
  by_cases c3 : xs.length = ys.length
  · have c3b : ((xs.length : Int) != (ys.length : Int)) = false := bne_eq_false_iff_eq.mpr (by omega)
    go_enter Try.func19, Try.ntmps19
    go_wp2
    repeat (go_quiet (fail); try go_wp2)
    go_loopg [5] (xs.length + 1) (fun kq v5 wr => ∃ (j : Nat), v5 = .int .i64 (j : Int) ∧ Aside0 (j + kq = xs.length + 1 ∧ 0 < kq) ∧ Aside0 (xs.take j = ys.take j) ∧ Drawn0 w wr)
    case atStart => exact ⟨0, rfl, ⟨by omega⟩, ⟨by simp⟩, by repeat (first | exact Drawn0.refl _ | apply Drawn0.step)⟩
    case round =>
      obtain ⟨j, rfl, HK, HE, ⟨m1, rfl⟩⟩ := hrel
      by_cases c1 : j < xs.length
      · have hlt : (j : Int) < (xs.length : Int) := by omega
        have hlt2 : (j : Int) < (ys.length : Int) := by omega
        have c2 : j < ys.length := by omega
        have j0 : (0 : Int) ≤ (j : Int) := Int.natCast_nonneg j
        obtain ⟨a, rfl, hca⟩ := HA.out.at c1
        obtain ⟨b, rfl, hcb⟩ := HB.out.at c2
        obtain ⟨u, hu⟩ : ∃ u, xs[j] = u := ⟨_, rfl⟩
        obtain ⟨z, hz⟩ : ∃ z, ys[j] = z := ⟨_, rfl⟩
        rw [hu] at hca
        rw [hz] at hcb
        have HU := Aside0.mk hu
        have HZ := Aside0.mk hz
        clear hu hz
        by_cases c5 : u = z
        · have c5b : (u != z) = false := bne_eq_false_iff_eq.mpr c5
          go_wp2
          repeat (go_quiet (fail); try go_wp2)
          go_roundg (xs.length - j)
          case measure => have h_ := HK.out; omega
          case rel =>
            have h_ : wrap64 ((j : Int) + 1) = (j : Int) + 1 := by unfold wrap64; omega
            refine ⟨j + 1, by first | rw [h_]; rfl | rfl, ⟨by omega⟩, ⟨?_⟩, by repeat (first | exact Drawn0.refl _ | apply Drawn0.step)⟩
            rw [List.take_add_one, List.take_add_one, HE.out, List.getElem?_eq_getElem c1, List.getElem?_eq_getElem c2, HU.out, HZ.out, c5]
        · have c5b : (u != z) = true := bne_iff_ne.mpr c5
          have e_ : decide (xs = ys) = false := decide_eq_false (fun e => c5 (by
            have h1_ := HU.out
            have h2_ := HZ.out
            subst e
            exact h1_.symm.trans h2_))
          go_wp2
          repeat (go_quiet (fail); try go_wp2)
          go_ret
          exact ⟨by rw [e_]; rfl, by repeat (first | exact Drawn0.refl _ | apply Drawn0.step)⟩
      · have e1 : j = xs.length := by have h_ := HK.out; omega
        have hge : (xs.length : Int) ≤ (j : Int) := by omega
        have hge2 : decide ((j : Int) < (xs.length : Int)) = false := decide_eq_false (by omega)
        have e_ : decide (xs = ys) = true := decide_eq_true (by
          have h_ := HE.out
          rw [e1, List.take_length, c3, List.take_length] at h_
          exact h_)
        go_wp2
        repeat (go_quiet (fail); try go_wp2)
        go_ret
        exact ⟨by rw [e_]; rfl, by repeat (first | exact Drawn0.refl _ | apply Drawn0.step)⟩
  · have c3b : ((xs.length : Int) != (ys.length : Int)) = true := bne_iff_ne.mpr (by omega)
    have c3b2 : (xs.length == ys.length) = false := by simp [c3]
    have e_ : decide (xs = ys) = false := decide_eq_false (fun e => c3 (by rw [e]))
    rw [e_]
    go_enter Try.func19, Try.ntmps19
    go_wp2
    repeat (go_quiet (fail); try go_wp2)
    go_ret
    exact ⟨rfl, by repeat (first | exact Drawn0.refl _ | apply Drawn0.step)⟩
end Go.Proofs.YtcnmbgijehnchaaW.Splay
/- The chapter's example at the head of all laws of the splay rows: it is as the chapter says. -/
namespace Go.Proofs.YtcnmbgijehnchaaW.Splay
open Go.RowKit Go.Shelf Go.Proofs.YtcnmbgijehnchaaW.PrintWords Go.Proofs.YtcnmbgijehnchaaW.PrintLast Go.Proofs.YtcnmbgijehnchaaW.PrintMore Go.Proofs.YtcnmbgijehnchaaW.Mine
attribute [local go_sem] max2_int min2_int max_two min_two max_three min_three max_four min_four Oper.semAt_some
theorem Rds.lit {W : World} {e : Nat} (xs : List Int) : Rds (W.alloc (.cells (ints xs).toArray e)) (some ⟨W.heap.size, 0, none⟩) xs := by
  refine .inr ⟨_, rfl, fun j hj => ⟨?_, by simp⟩⟩
  have e1 : (⟨W.heap.size, 0, none⟩ : Addr).add j = ⟨W.heap.size, j, none⟩ := by simp [Addr.add]; intro e; exact e.symm
  rw [e1]
  refine (blk_cell (World.alloc_heap_new W _) j).trans ?_
  simp [ints, hj]
set_option maxHeartbeats 8000000 in
set_option maxRecDepth 100000 in
theorem turned_calls {w0 w : World} {gs gn N cap : Nat} (h : Fm w0 w gs gn N cap [[(0, 5), (1, 6), (2, 7)]]) :
    Calls Try.prog 40 #[.pointer (some ⟨gs, 0, none⟩)] w fun e w' => e = .returned (.bool true) ∧ Below w0.heap.size w0 w' := by
  have HF := Aside0.mk h
  clear h
  go_enter Try.func40, Try.ntmps40
  go_wp2_with (first
    | (go_at_call 17; (with_reducible refine (HF.out.turn (W := [(0, 5), (1, 6), (2, 7)]) (Vs := []) (List.Perm.refl _) (by decide)).mono ?_); rintro e w1 ⟨⟨v, rfl⟩, hF, hK⟩; have HF1 := Aside0.mk hF; clear hF hK)
    | (go_at_call 20; (with_reducible refine (HF1.out.row (W := [(0, 5), (1, 6), (2, 7)].reverse) (List.mem_singleton.2 rfl) (by decide)).mono ?_); rintro e w2 ⟨u, rfl, ho, hF, hb⟩; have HF2 := Aside0.mk hF; obtain ⟨A2, c2, rfl, hc2, hm2, hr2, hof2⟩ := Rds.own ho; have HR2 := Aside0.mk hr2; clear hF hb ho hr2 hof2)
    | (go_at_call 19; (refine (same_calls (ys := [2, 1, 0]) (HR2.out.below (below_alloc (Below.refl _ _) _)) (Rds.lit [2, 1, 0]) (by decide) (by decide)).mono ?_); rintro e w3 ⟨rfl, hd⟩; have HB3 : Aside0 (Below w0.heap.size w0 w3) := ⟨((HF2.out.below (below_alloc (Below.refl _ _) _)).below hd.below).old⟩; clear hd))
  go_ret
  exact ⟨rfl, HB3.out⟩
set_option maxHeartbeats 8000000 in
set_option maxRecDepth 100000 in
theorem shown_calls (w : World) :
    Calls Try.prog 12 #[] w fun e w' => e = .returned (.bool true) ∧ Below w.heap.size w w' := by
  go_enter Try.func12, Try.ntmps12
  go_wp2_with (first
    | (go_at_call 14; (refine (Fm.new (w0 := w) (vs := [5, 6, 7]) (below_alloc (Below.refl _ _) _) (Rds.lit [5, 6, 7]) (by decide) (by decide) (by decide)).mono ?_); rintro e w1 ⟨rfl, hB, gn, cap, hF⟩; rw [World.size_alloc] at hF; have HF1 : Aside0 (Fm w w1 (w.heap.size + 1) gn 3 cap [[(0, 5)], [(1, 6)], [(2, 7)]]) := ⟨hF⟩; clear hF hB)
    | (go_at_call 15; (with_reducible refine (HF1.out.join (a := 0) (b := 1) (Wa := [(0, 5)]) (Wb := [(1, 6)]) (Vs := [[(2, 7)]]) (List.Perm.refl _) (by decide) (by decide)).mono ?_); rintro e w2 ⟨rfl, hF, hK⟩; have HF2 := Aside0.mk hF; clear hF hK HF1)
    | (go_at_call 15; (with_reducible refine (HF2.out.join (a := 0) (b := 2) (Wa := [(0, 5), (1, 6)]) (Wb := [(2, 7)]) (Vs := []) (List.Perm.refl _) (by decide) (by decide)).mono ?_); rintro e w3 ⟨rfl, hF, hK⟩; have HF3 := Aside0.mk hF; clear hF hK HF2)
    | (go_at_call 40; (with_reducible refine (turned_calls HF3.out).mono ?_); rintro e w4 ⟨rfl, hB⟩; have HB4 := Aside0.mk hB; clear hB))
  go_ret
  exact ⟨rfl, HB4.out⟩
end Go.Proofs.YtcnmbgijehnchaaW.Splay
/- Rows that are joined one item after the other: plain words for the laws. -/
namespace Go.Proofs.YtcnmbgijehnchaaW.Splay
open Go.RowKit Go.Shelf Go.Proofs.YtcnmbgijehnchaaW.PrintWords Go.Proofs.YtcnmbgijehnchaaW.PrintLast Go.Proofs.YtcnmbgijehnchaaW.PrintMore Go.Proofs.YtcnmbgijehnchaaW.Mine
theorem wr1 (j : Nat) (h : j ≤ 1000000000) : wrap64 ((j : Int) + 1) = ((j + 1 : Nat) : Int) := by unfold wrap64; omega
def item (vs : List Int) (j : Nat) : Int × Int := ((j : Int), vs.getD j 0)
def rowTo (vs : List Int) (i : Nat) : List (Int × Int) := (List.range i).map (item vs)
def singles (vs : List Int) (i : Nat) : List (List (Int × Int)) := ((List.range vs.length).drop i).map fun j => [item vs j]
def rowsAt (vs : List Int) (i : Nat) : List (List (Int × Int)) := rowTo vs i :: singles vs i
theorem drop_range {n i : Nat} (h : i < n) : (List.range n).drop i = i :: (List.range n).drop (i + 1) := by
  rw [List.drop_eq_getElem_cons (by simpa using h)]
  simp
theorem singles_cons {vs : List Int} {i : Nat} (h : i < vs.length) : singles vs i = [item vs i] :: singles vs (i + 1) := by
  unfold singles
  rw [drop_range h]
  rfl
theorem rows_one {vs : List Int} (h : 0 < vs.length) : ones vs = rowsAt vs 1 := by
  have e : ones vs = singles vs 0 := by
    unfold singles
    rw [List.drop_zero]
    rfl
  rw [e, singles_cons h]
  rfl
theorem rowTo_succ (vs : List Int) (i : Nat) : rowTo vs (i + 1) = rowTo vs i ++ [item vs i] := by
  unfold rowTo
  rw [List.range_succ, List.map_append]
  rfl
theorem rowTo_keys (vs : List Int) (i : Nat) : (rowTo vs i).map Prod.fst = (List.range i).map fun j : Nat => (j : Int) := by
  unfold rowTo
  rw [List.map_map]
  rfl
theorem rowTo_mem {vs : List Int} {i j : Nat} (h : j < i) : (j : Int) ∈ (rowTo vs i).map Prod.fst := by
  rw [rowTo_keys]
  exact List.mem_map.2 ⟨j, List.mem_range.2 h, rfl⟩
theorem rowTo_at {vs : List Int} {i j : Nat} (h : j < i) : (rowTo vs i)[j]? = some (item vs j) := by
  unfold rowTo
  rw [List.getElem?_map, List.getElem?_range h]
  rfl
theorem rowTo_length (vs : List Int) (i : Nat) : (rowTo vs i).length = i := by simp [rowTo]
/-- A row of all, parted at an item. -/
theorem rowTo_part {vs : List Int} {n : Nat} {L R : List (Int × Int)} {y m : Int} (h : rowTo vs n = L ++ (y, m) :: R) :
    L.length < n ∧ y = (L.length : Int) ∧ m = vs.getD L.length 0 ∧ (∀ i, i < L.length → item vs i ∈ L) ∧ ∀ i, L.length < i → i < n → item vs i ∈ R := by
  have hl : n = L.length + (R.length + 1) := by
    have h1 := congrArg List.length h
    rw [rowTo_length, List.length_append, List.length_cons] at h1
    exact h1
  have hp := rowTo_at (vs := vs) (i := n) (j := L.length) (by omega)
  rw [h, List.getElem?_append_right (Nat.le_refl _), Nat.sub_self] at hp
  have hp := Option.some.inj hp
  injection hp with e1 e2
  refine ⟨by omega, e1, e2, fun i hi => ?_, fun i h1 h2 => ?_⟩
  · have h3 := rowTo_at (vs := vs) (i := n) (j := i) (by omega)
    rw [h, List.getElem?_append_left hi] at h3
    exact List.mem_of_getElem? h3
  · have h3 := rowTo_at (vs := vs) (i := n) (j := i) h2
    rw [h, List.getElem?_append_right (by omega), show i - L.length = (i - L.length - 1) + 1 by omega, List.getElem?_cons_succ] at h3
    exact List.mem_of_getElem? h3
/-- Which one of those told is the first of the least, and which the last. -/
structure Mins (vs : List Int) (j f l : Nat) : Prop where
  zero : j = 0 → f = 0 ∧ l = 0
  lt : 0 < j → f < j ∧ l < j
  first : ∀ i, i < j → vs.getD f 0 ≤ vs.getD i 0
  last : ∀ i, i < j → vs.getD l 0 ≤ vs.getD i 0
  ahead : ∀ i, i < f → vs.getD f 0 < vs.getD i 0
  behind : ∀ i, l < i → i < j → vs.getD l 0 < vs.getD i 0
theorem Mins.none (vs : List Int) : Mins vs 0 0 0 := ⟨fun _ => ⟨rfl, rfl⟩, fun h => by omega, fun i h => by omega, fun i h => by omega, fun i h => by omega, fun i h => by omega⟩
theorem Mins.step {vs : List Int} {j f l : Nat} (h : Mins vs j f l) : Mins vs (j + 1) (if vs.getD j 0 < vs.getD f 0 then j else f) (if vs.getD j 0 ≤ vs.getD l 0 then j else l) := by
  obtain ⟨h0, h1, h2, h3, h4, h5⟩ := h
  rcases Nat.eq_zero_or_pos j with rfl | hj
  · obtain ⟨rfl, rfl⟩ := h0 rfl
    rw [if_neg (by omega), if_pos (Int.le_refl _)]
    refine ⟨fun h => by omega, fun _ => ⟨by omega, by omega⟩, fun i hi => ?_, fun i hi => ?_, fun i hi => by omega, fun i h1 h2 => by omega⟩ <;> obtain rfl : i = 0 := by omega
    · exact Int.le_refl _
    · exact Int.le_refl _
  · obtain ⟨a, b⟩ := h1 hj
    refine ⟨fun h => by omega, fun _ => ?_, fun i hi => ?_, fun i hi => ?_, fun i hi => ?_, fun i hi hi2 => ?_⟩
    · constructor <;> split <;> omega
    · by_cases c : vs.getD j 0 < vs.getD f 0
      · rw [if_pos c]
        by_cases e : i = j
        · subst e; exact Int.le_refl _
        · have := h2 i (by omega); omega
      · rw [if_neg c]
        by_cases e : i = j
        · subst e; omega
        · exact h2 i (by omega)
    · by_cases c : vs.getD j 0 ≤ vs.getD l 0
      · rw [if_pos c]
        by_cases e : i = j
        · subst e; exact Int.le_refl _
        · have := h3 i (by omega); omega
      · rw [if_neg c]
        by_cases e : i = j
        · subst e; omega
        · exact h3 i (by omega)
    · by_cases c : vs.getD j 0 < vs.getD f 0
      · rw [if_pos c] at hi ⊢
        have := h2 i (by omega); omega
      · rw [if_neg c] at hi ⊢
        exact h4 i hi
    · by_cases c : vs.getD j 0 ≤ vs.getD l 0
      · rw [if_pos c] at hi ⊢
        omega
      · rw [if_neg c] at hi ⊢
        by_cases e : i = j
        · subst e; omega
        · exact h5 i hi (by omega)
theorem Mins.is_first {vs : List Int} {n f l : Nat} {y : Int} (h : Mins vs n f l) (hy : FirstLeast (rowTo vs n) y) : y = (f : Int) := by
  obtain ⟨L, m, R, e, h1, h2⟩ := hy
  obtain ⟨k1, k2, k3, k4, k5⟩ := rowTo_part e
  obtain ⟨_, hlt, h3, _, h4, _⟩ := h
  have hf := (hlt (by omega)).1
  rcases Nat.lt_trichotomy L.length f with c | c | c
  · have a1 := h4 L.length c
    have a2 := h2 _ (k5 f c hf)
    have : (item vs f).2 = vs.getD f 0 := rfl
    omega
  · omega
  · have a1 := h1 _ (k4 f c)
    have a2 := h3 L.length k1
    have : (item vs f).2 = vs.getD f 0 := rfl
    omega
theorem Mins.is_last {vs : List Int} {n f l : Nat} {y : Int} (h : Mins vs n f l) (hy : FirstLeast (rowTo vs n).reverse y) : y = (l : Int) := by
  obtain ⟨L, m, R, e, h1, h2⟩ := hy
  have e2 : rowTo vs n = R.reverse ++ (y, m) :: L.reverse := by
    have h3 := congrArg List.reverse e
    rw [List.reverse_reverse] at h3
    rw [h3]
    simp
  obtain ⟨k1, k2, k3, k4, k5⟩ := rowTo_part e2
  obtain ⟨_, hlt, _, h3, _, h4⟩ := h
  have hf := (hlt (by omega)).2
  rcases Nat.lt_trichotomy R.reverse.length l with c | c | c
  · have a1 := h1 _ (List.mem_reverse.1 (k5 l c hf))
    have a2 := h3 R.reverse.length k1
    have : (item vs l).2 = vs.getD l 0 := rfl
    omega
  · omega
  · have a1 := h2 _ (List.mem_reverse.1 (k4 l c))
    have a2 := h4 R.reverse.length c k1
    have : (item vs l).2 = vs.getD l 0 := rfl
    omega
section
variable {w0 w : World} {gs gn N cap : Nat} {vs : List Int} {i : Nat}
/-- One item more is joined behind. -/
theorem Fm.join_next (h : Fm w0 w gs gn N cap (rowsAt vs i)) {j : Nat} (hj : j < i) (hi : i < vs.length) :
    Calls Try.prog 15 #[.pointer (some ⟨gs, 0, none⟩), .int .i64 (j : Int), .int .i64 (i : Int)] w fun e w' => e = .returned (.int .i64 0) ∧ Fm w0 w' gs gn N cap (rowsAt vs (i + 1)) ∧ Ke gs gn w w' := by
  unfold rowsAt at h ⊢
  rw [singles_cons hi] at h
  rw [rowTo_succ]
  exact h.join (List.Perm.refl _) (rowTo_mem hj) (show (i : Int) ∈ [(i : Int)] from List.mem_singleton.2 rfl)
theorem own_cell {W : World} {base e : Nat} {g n c : Nat} {xs : List Int} (h : W.ownsRow base e 1 (.slice (some ⟨g, 0, none⟩) n c) n (ints xs)) {j : Nat} (hj : j < xs.length) : W.cell? ⟨g, j, none⟩ = some (.int .i64 (xs.getD j 0)) := by
  obtain ⟨A, c2, e1, _, _, h1, _⟩ := Rds.own h
  injection e1 with e2 _ _
  obtain ⟨a, e3, h2⟩ := h1.at hj
  rw [← e2] at e3
  injection e3 with e3
  rw [← e3] at h2
  have e4 : (⟨g, 0, none⟩ : Addr).add j = ⟨g, j, none⟩ := by simp [Addr.add]; intro e; exact e.symm
  rw [e4] at h2
  rw [h2, getD_at hj]
end
end Go.Proofs.YtcnmbgijehnchaaW.Splay
/- A forest beside another; new forests by how many; rows from an item on. -/
namespace Go.Proofs.YtcnmbgijehnchaaW.Splay
open Go.RowKit Go.Shelf Go.Proofs.YtcnmbgijehnchaaW.PrintWords Go.Proofs.YtcnmbgijehnchaaW.PrintLast Go.Proofs.YtcnmbgijehnchaaW.PrintMore Go.Proofs.YtcnmbgijehnchaaW.Mine
section
variable {w0 w w1 : World} {gs gn N cap : Nat} {Ws : List (List (Int × Int))} {vs : List Int} {n : Nat}
theorem Fm.lift (h : Fm w w1 gs gn N cap Ws) (hb : Below w0.heap.size w0 w) : Fm w0 w1 gs gn N cap Ws := by
  obtain ⟨⟨s, ⟨h1, h4, h5⟩, h2⟩, h3⟩ := h
  have hz := hb.size
  obtain ⟨b1, ⟨st, b2⟩, ⟨cs, b3, b4⟩⟩ := h1
  exact ⟨⟨s, ⟨⟨hb.trans (b1.mono hz), ⟨st, b2.1, Nat.le_trans hz b2.2.1, b2.2.2⟩, ⟨cs, ⟨b3.1, Nat.le_trans hz b3.2.1, b3.2.2⟩, b4⟩⟩, h4, h5⟩, h2⟩, h3⟩
theorem Fm.other (h : Fm w0 w gs gn N cap Ws) {gt gm : Nat} (hk : Ke gt gm w w1) (hb : Below w0.heap.size w0 w1) (h1 : gs ≠ gt) (h2 : gs ≠ gm) (h3 : gn ≠ gt) (h4 : gn ≠ gm) : Fm w0 w1 gs gn N cap Ws := by
  obtain ⟨⟨s, ⟨k1, k4, k5⟩, k2⟩, k3⟩ := h
  exact ⟨⟨s, ⟨k1.ke_stay hk hb h1 h2 h3 h4, k4, k5⟩, k2⟩, k3⟩
theorem Fm.newn {A : Option Addr} {c : Nat} (hn : vs.length = n) (hb : Below w0.heap.size w0 w) (hr : Rds w A vs) (h1 : n ≤ 3000) (h0 : 0 < n) (hv : ∀ v ∈ vs, -4611686018427387904 ≤ v ∧ v ≤ 4611686018427387904) :
    Calls Try.prog 14 #[.slice A n c] w fun e w' => e = .returned (.tuple #[.pointer (some ⟨w.heap.size, 0, none⟩), .int .i64 0]) ∧ Below w.heap.size w w' ∧ ∃ gn cap, w.heap.size < gn ∧ Fm w0 w' w.heap.size gn n cap (ones vs) := by
  subst hn
  refine (Fm.new (w0 := w) (Below.refl _ _) hr h1 h0 hv).mono ?_
  rintro e w' ⟨he, hB, gn, cap, hF⟩
  have hk := hF.ke
  exact ⟨he, hB, gn, cap, by omega, hF.lift hb⟩
def rowFrom (vs : List Int) (k n : Nat) : List (Int × Int) := ((List.range n).drop k).map (item vs)
theorem rowTo_from (vs : List Int) {k n : Nat} (h : k ≤ n) : rowTo vs n = rowTo vs k ++ rowFrom vs k n := by
  unfold rowTo rowFrom
  rw [← List.map_append]
  congr 1
  conv => lhs; rw [← List.take_append_drop k (List.range n)]
  rw [List.take_range, Nat.min_eq_left h]
theorem rowFrom_cons (vs : List Int) {k n : Nat} (h : k < n) : rowFrom vs k n = item vs k :: rowFrom vs (k + 1) n := by
  unfold rowFrom
  rw [drop_range h]
  rfl
theorem rowFrom_length (vs : List Int) (k n : Nat) : (rowFrom vs k n).length = n - k := by simp [rowFrom]
theorem rowTo_ne {vs : List Int} {k : Nat} (h : 0 < k) : rowTo vs k ≠ [] := fun e => by
  have := rowTo_length vs k
  rw [e] at this
  simp at this
  omega
theorem singles_all (vs : List Int) (hn : vs.length = n) : singles vs n = [] := by
  unfold singles
  rw [hn, List.drop_eq_nil_of_le (by simp)]
  rfl
theorem rowTo_rev_at {vs : List Int} {n i : Nat} (h : i < n) : ((rowTo vs n).reverse.map Prod.fst).getD i (-1) = ((n - 1 - i : Nat) : Int) := by
  have h1 : ((rowTo vs n).reverse.map Prod.fst)[i]? = some ((n - 1 - i : Nat) : Int) := by
    rw [List.getElem?_map, List.getElem?_reverse (by rw [rowTo_length]; exact h), rowTo_length, rowTo_at (by omega)]
    rfl
  rw [List.getD_eq_getElem?_getD, h1]
  rfl
theorem rowTo_rev_part {vs : List Int} {n i : Nat} (h : i < n) : ∃ L R, (rowTo vs n).reverse = L ++ ((i : Int), vs.getD i 0) :: R ∧ L.length = n - 1 - i := by
  refine ⟨(rowFrom vs (i + 1) n).reverse, (rowTo vs i).reverse, ?_, by rw [List.length_reverse, rowFrom_length]; omega⟩
  rw [rowTo_from vs (Nat.le_of_lt h), rowFrom_cons vs h]
  simp [item]
theorem rowTo_first {vs : List Int} {n : Nat} (h : 0 < n) : ∃ R, rowTo vs n = ((0 : Int), vs.getD 0 0) :: R := by
  refine ⟨rowFrom vs 1 n, ?_⟩
  rw [rowTo_from vs (Nat.zero_le n), rowFrom_cons vs h]
  rfl
theorem rowTo_last {vs : List Int} {n : Nat} (h : 0 < n) : rowTo vs n = rowTo vs (n - 1) ++ [(((n - 1 : Nat) : Int), vs.getD (n - 1) 0)] := by
  conv => lhs; rw [show n = (n - 1) + 1 by omega, rowTo_succ]
  rfl
theorem wr2 (n i : Nat) (hi : i < n) (hn : n ≤ 1000000) : wrap64 ((n : Int) - 1 - (i : Int)) = (n : Int) - 1 - (i : Int) := by unfold wrap64; omega
theorem Fm.join_next0 {i : Nat} (h : Fm w0 w gs gn N cap (rowsAt vs i)) (hj : 0 < i) (hi : i < vs.length) :
    Calls Try.prog 15 #[.pointer (some ⟨gs, 0, none⟩), .int .i64 0, .int .i64 (i : Int)] w fun e w' => e = .returned (.int .i64 0) ∧ Fm w0 w' gs gn N cap (rowsAt vs (i + 1)) ∧ Ke gs gn w w' := h.join_next (j := 0) hj hi
theorem rowFrom_mem {vs : List Int} {k n : Nat} (h : k < n) : (k : Int) ∈ (rowFrom vs k n).map Prod.fst := by
  rw [rowFrom_cons vs h]
  exact List.mem_cons_self
theorem Fm.cut_at {k : Nat} (h : Fm w0 w gs gn N cap [rowTo vs n]) (h0 : 0 < k) (hk : k < n) :
    Calls Try.prog 18 #[.pointer (some ⟨gs, 0, none⟩), .int .i64 (k : Int)] w fun e w' => e = .returned (.int .i64 0) ∧ Fm w0 w' gs gn N cap [rowTo vs k, rowFrom vs k n] ∧ Ke gs gn w w' := by
  rw [rowTo_from vs (Nat.le_of_lt hk), rowFrom_cons vs hk] at h
  refine (h.split (x := (k : Int)) (v := vs.getD k 0) (List.Perm.refl _)).mono ?_
  rintro e w' ⟨he, hF, hK⟩
  refine ⟨he, ?_, hK⟩
  unfold cutL at hF
  rw [if_neg (rowTo_ne h0)] at hF
  rw [rowFrom_cons vs hk]
  exact hF
theorem Fm.place_rev {i : Nat} (h : Fm w0 w gs gn N cap [(rowTo vs n).reverse]) (hi : i < n) :
    Calls Try.prog 21 #[.pointer (some ⟨gs, 0, none⟩), .int .i64 (i : Int)] w fun e w' => e = .returned (.int .i64 ((n : Int) - 1 - (i : Int))) ∧ Fm w0 w' gs gn N cap [(rowTo vs n).reverse] ∧ Ke gs gn w w' := by
  obtain ⟨L, R, e, hl⟩ := rowTo_rev_part (vs := vs) hi
  rw [e] at h ⊢
  rw [show (n : Int) - 1 - (i : Int) = (L.length : Int) by omega]
  exact h.place List.mem_cons_self
theorem Fm.at_rev {i : Nat} (h : Fm w0 w gs gn N cap [(rowTo vs n).reverse]) (hi : i < n) :
    Calls Try.prog 22 #[.pointer (some ⟨gs, 0, none⟩), .int .i64 0, .int .i64 (i : Int)] w fun e w' => e = .returned (.int .i64 ((n : Int) - 1 - (i : Int))) ∧ Fm w0 w' gs gn N cap [(rowTo vs n).reverse] ∧ Ke gs gn w w' := by
  have h1 := h.at List.mem_cons_self (x := 0) (by rw [List.map_reverse]; exact List.mem_reverse.2 (rowTo_mem (j := 0) (by omega))) (i : Int)
  rw [if_neg (by omega), Int.toNat_natCast, rowTo_rev_at hi] at h1
  rw [show (n : Int) - 1 - (i : Int) = ((n - 1 - i : Nat) : Int) by omega]
  exact h1
theorem Fm.first_rev {k : Nat} (h : Fm w0 w gs gn N cap [(rowTo vs n).reverse]) (hk : k < n) :
    Calls Try.prog 23 #[.pointer (some ⟨gs, 0, none⟩), .int .i64 (k : Int)] w fun e w' => e = .returned (.int .i64 ((n : Int) - 1)) ∧ Fm w0 w' gs gn N cap [(rowTo vs n).reverse] ∧ Ke gs gn w w' := by
  have e : (rowTo vs n).reverse = (((n - 1 : Nat) : Int), vs.getD (n - 1) 0) :: (rowTo vs (n - 1)).reverse := by
    rw [rowTo_last (vs := vs) (n := n) (by omega), List.reverse_append]
    rfl
  have hm : (k : Int) ∈ ((rowTo vs n).reverse).map Prod.fst := by rw [List.map_reverse]; exact List.mem_reverse.2 (rowTo_mem hk)
  rw [e] at h hm ⊢
  rw [show (n : Int) - 1 = ((n - 1 : Nat) : Int) by omega]
  exact h.first List.mem_cons_self hm
theorem Fm.last_rev {k : Nat} (h : Fm w0 w gs gn N cap [(rowTo vs n).reverse]) (hk : k < n) :
    Calls Try.prog 24 #[.pointer (some ⟨gs, 0, none⟩), .int .i64 (k : Int)] w fun e w' => e = .returned (.int .i64 0) ∧ Fm w0 w' gs gn N cap [(rowTo vs n).reverse] ∧ Ke gs gn w w' := by
  obtain ⟨R, e⟩ := rowTo_first (vs := vs) (n := n) (by omega)
  have hm : (k : Int) ∈ ((rowTo vs n).reverse).map Prod.fst := by rw [List.map_reverse]; exact List.mem_reverse.2 (rowTo_mem hk)
  rw [e, List.reverse_cons] at h hm ⊢
  exact h.last List.mem_cons_self hm
theorem Fm.at_far {k : Nat} (h : Fm w0 w gs gn N cap [(rowTo vs n).reverse]) (hk : k < n) {pl : Int} (hp : pl < 0 ∨ (n : Int) ≤ pl) :
    Calls Try.prog 22 #[.pointer (some ⟨gs, 0, none⟩), .int .i64 (k : Int), .int .i64 pl] w fun e w' => e = .returned (.int .i64 (-1)) ∧ Fm w0 w' gs gn N cap [(rowTo vs n).reverse] ∧ Ke gs gn w w' := by
  have h1 := h.at List.mem_cons_self (x := (k : Int)) (by rw [List.map_reverse]; exact List.mem_reverse.2 (rowTo_mem hk)) pl
  have e : (if pl < 0 then (-1 : Int) else (((rowTo vs n).reverse).map Prod.fst).getD pl.toNat (-1)) = -1 := by
    split
    · rfl
    · rw [List.getD_eq_getElem?_getD, List.getElem?_eq_none (by rw [List.length_map, List.length_reverse, rowTo_length]; omega)]
      rfl
  rw [e] at h1
  exact h1
theorem Rds.zeros {W : World} {e n : Nat} : Rds (W.alloc (.cells (madeCells #[.int .i64 0] n) e)) (some ⟨W.heap.size, 0, none⟩) (List.replicate n 0) := by
  refine .inr ⟨_, rfl, fun j hj => ⟨?_, by simp⟩⟩
  rw [add_plain]
  refine (blk_cell (World.alloc_heap_new W _) j).trans ?_
  rw [made_at (by simpa using hj)]
  simp
end
end Go.Proofs.YtcnmbgijehnchaaW.Splay
/- Acts, of raw numbers, that are read. -/
namespace Go.Proofs.YtcnmbgijehnchaaW.Splay
open Go.RowKit Go.Shelf Go.Proofs.YtcnmbgijehnchaaW.PrintWords Go.Proofs.YtcnmbgijehnchaaW.PrintLast Go.Proofs.YtcnmbgijehnchaaW.PrintMore Go.Proofs.YtcnmbgijehnchaaW.Mine
/-- An act: what is done, the two items, the amount. -/
structure Ac where
  op : Int
  x : Int
  y : Int
  d : Int
/-- Each of its numbers fits. -/
def Ac.wf (c : Ac) : Prop := (Lit.int .i64 c.op).wf = true ∧ (Lit.int .i64 c.x).wf = true ∧ (Lit.int .i64 c.y).wf = true ∧ (Lit.int .i64 c.d).wf = true
def RdA (W : World) (A : Option Addr) (l : List Ac) : Prop := (∀ c ∈ l, c.wf) ∧ (l = [] ∨ ∃ a, A = some a ∧ ∀ j c, l[j]? = some c →
  W.cell? (a.add (j * 4)) = some (.int .i64 c.op) ∧ W.cell? ⟨(a.add (j * 4)).block, (a.add (j * 4)).off + 1, none⟩ = some (.int .i64 c.x) ∧ W.cell? ⟨(a.add (j * 4)).block, (a.add (j * 4)).off + 2, none⟩ = some (.int .i64 c.y) ∧ W.cell? ⟨(a.add (j * 4)).block, (a.add (j * 4)).off + 3, none⟩ = some (.int .i64 c.d))
theorem RdA.at {W W1 : World} {A : Option Addr} {l : List Ac} (h : RdA W A l) (hb : Below W.heap.size W W1) {j : Nat} (hj : j < l.length) : ∃ a c, A = some a ∧ l[j]? = some c ∧ c.wf ∧ W1.cell? (a.add (j * 4)) = some (.int .i64 c.op) ∧ W1.cell? ⟨(a.add (j * 4)).block, (a.add (j * 4)).off + 1, none⟩ = some (.int .i64 c.x) ∧ W1.cell? ⟨(a.add (j * 4)).block, (a.add (j * 4)).off + 2, none⟩ = some (.int .i64 c.y) := by
  obtain ⟨hw, e | ⟨a, e, h⟩⟩ := h
  · subst e; simp at hj
  · have e1 : l[j]? = some l[j] := List.getElem?_eq_getElem hj
    obtain ⟨h0, h1, h2, h3⟩ := h j l[j] e1
    exact ⟨a, l[j], e, e1, hw _ (List.getElem_mem hj), pw_cell_below hb h0, pw_cell_below hb h1, pw_cell_below hb h2⟩
end Go.Proofs.YtcnmbgijehnchaaW.Splay
/- Rows that a call hands back, read again and again; acts on rows. -/
namespace Go.Proofs.YtcnmbgijehnchaaW.Splay
open Go.RowKit Go.Shelf Go.Proofs.YtcnmbgijehnchaaW.PrintWords Go.Proofs.YtcnmbgijehnchaaW.PrintLast Go.Proofs.YtcnmbgijehnchaaW.PrintMore Go.Proofs.YtcnmbgijehnchaaW.Mine
/-- A row of cells that hold these numbers. -/
structure RowC (w : World) (g : Nat) (xs : List Int) : Prop where
  lt : g < w.heap.size
  at_ : ∀ j (h : j < xs.length), w.cell? ⟨g, j, none⟩ = some (.int .i64 xs[j])
section
variable {w0 w w1 : World} {g gs gn N cap : Nat} {xs : List Int} {Ws Vs : List (List (Int × Int))} {W V L R : List (Int × Int)} {x y v : Int}
theorem RowC.ke (h : RowC w g xs) (hk : Ke gs gn w w1) (h1 : g ≠ gs) (h2 : g ≠ gn) : RowC w1 g xs :=
  ⟨Nat.lt_of_lt_of_le h.lt hk.size, fun j hj => (cell_of_heap (hk.heap g h.lt h1 h2)).trans (h.at_ j hj)⟩
theorem RowC.below (h : RowC w g xs) (hb : Below w.heap.size w w1) : RowC w1 g xs :=
  ⟨Nat.lt_of_lt_of_le h.lt hb.size, fun j hj => (cell_of_heap (hb.block g h.lt)).trans (h.at_ j hj)⟩
theorem RowC.get (h : RowC w g xs) {j : Nat} {u : Int} (hj : xs[j]? = some u) : w.cell? ⟨g, j, none⟩ = some (.int .i64 u) := by
  obtain ⟨h1, h2⟩ := List.getElem?_eq_some_iff.1 hj
  rw [h.at_ j h1, h2]
theorem RowC.take (h : RowC w g xs) (k : Nat) : Rds w (some ⟨g, 0, none⟩) (xs.take k) := by
  refine .inr ⟨_, rfl, fun j hj => ⟨?_, h.lt⟩⟩
  rw [add_plain, List.getElem_take]
  exact h.at_ j _
theorem RowC.drop (h : RowC w g xs) (k : Nat) : Rds w (some ⟨g, k, none⟩) (xs.drop k) := by
  refine .inr ⟨_, rfl, fun j hj => ⟨?_, h.lt⟩⟩
  have e : (⟨g, k, none⟩ : Addr).add j = ⟨g, k + j, none⟩ := by unfold Addr.add; split <;> simp_all
  rw [e, List.getElem_drop]
  exact h.at_ (k + j) _
theorem RowC.all (h : RowC w g xs) : Rds w (some ⟨g, 0, none⟩) xs := by
  have h1 := h.take xs.length
  rwa [List.take_length] at h1
theorem own_row {base e n : Nat} {u : Value} (h : w.ownsRow base e 1 u n (ints xs)) (hn : 0 < n) : ∃ g c, u = .slice (some ⟨g, 0, none⟩) n c ∧ n ≤ c ∧ c ≤ maxLen ∧ base ≤ g ∧ xs.length = n ∧ RowC w g xs := by
  obtain ⟨A, c, rfl, h1, h2, h3, h4⟩ := Rds.own h
  have hl : xs.length = n := by
    have h5 := h.1
    simp [ints] at h5
    exact h5
  rcases h3 with e | ⟨a, rfl, h3⟩
  · subst e
    simp at hl
    omega
  · obtain ⟨k1, k2, k3⟩ := h4 a rfl
    rcases h.2 with ⟨e, _⟩ | ⟨g, cap, cur, e, _⟩
    · cases e
    · injection e with e1 e2 e3
      injection e1 with e1
      subst e1
      refine ⟨g, c, by rw [hl], by omega, h2, k1, hl, k3, fun j hj => ?_⟩
      have := (h3 j hj).1
      rwa [add_plain] at this
theorem same_n {A B : Option Addr} {ys : List Int} {c d n m : Nat} (hn : xs.length = n) (hm : ys.length = m) (ha : Rds w A xs) (hb : Rds w B ys) (hl : n ≤ 1000000) (hl2 : m ≤ 1000000) :
    Calls Try.prog 19 #[.slice A n c, .slice B m d] w fun e w' => e = .returned (.bool (decide (xs = ys))) ∧ Drawn0 w w' := by
  subst hn hm
  exact same_calls ha hb hl hl2
/-- The row of an item, as cells. -/
theorem Fm.rowc (h : Fm w0 w gs gn N cap Ws) (hW : W ∈ Ws) (hx : x ∈ W.map Prod.fst) :
    Calls Try.prog 20 #[.pointer (some ⟨gs, 0, none⟩), .int .i64 x] w fun e w' => ∃ g c, e = .returned (.slice (some ⟨g, 0, none⟩) W.length c) ∧ W.length ≤ c ∧ c ≤ maxLen ∧ w.heap.size ≤ g ∧ RowC w' g (W.map Prod.fst) ∧ Fm w0 w' gs gn N cap Ws ∧ Below w.heap.size w w' := by
  refine (h.row hW hx).mono ?_
  rintro e w' ⟨u, he, ho, hF, hb⟩
  have hp := List.length_pos_iff.2 (h.ne hW)
  obtain ⟨g, c, rfl, h1, h2, h3, h4, h5⟩ := own_row ho hp
  exact ⟨g, c, he, h1, h2, h3, h5, hF, hb⟩
/-- Each item has its value. -/
def Vok (vs : List Int) (Ws : List (List (Int × Int))) : Prop := ∀ W ∈ Ws, ∀ y ∈ W, y.2 = vs.getD y.1.toNat 0
theorem Vok.sub {vs : List Int} (h : Vok vs Ws) (hs : ∀ V ∈ Vs, ∀ y ∈ V, ∃ W ∈ Ws, y ∈ W) : Vok vs Vs := fun V hV y hy => by
  obtain ⟨W, hW, hy⟩ := hs V hV y hy
  exact h W hW y hy
theorem two_perm (h1 : W ∈ Ws) (h2 : V ∈ Ws) (hne : W ≠ V) : ∃ Vs, Ws.Perm (W :: V :: Vs) := by
  have p1 := List.perm_cons_erase h1
  have h3 : V ∈ Ws.erase W := (List.mem_erase_of_ne hne.symm).2 h2
  exact ⟨_, p1.trans ((List.perm_cons_erase h3).cons _)⟩
theorem part_at (hx : x ∈ W.map Prod.fst) : ∃ L v R, W = L ++ (x, v) :: R := by
  obtain ⟨⟨a, v⟩, hy, rfl⟩ := List.mem_map.1 hx
  obtain ⟨L, R, e⟩ := List.append_of_mem hy
  exact ⟨L, v, R, e⟩
/-- Two rows are joined. -/
theorem Fm.act_join {vs : List Int} (h : Fm w0 w gs gn N cap Ws) (hv : Vok vs Ws) (hW : W ∈ Ws) (hV : V ∈ Ws) (hx : x ∈ W.map Prod.fst) (hy : y ∈ V.map Prod.fst) (c : W ≠ V) :
    Calls Try.prog 15 #[.pointer (some ⟨gs, 0, none⟩), .int .i64 x, .int .i64 y] w fun e w' => e = .returned (.int .i64 0) ∧ ∃ Us U, Fm w0 w' gs gn N cap Us ∧ Ke gs gn w w' ∧ Vok vs Us ∧ U ∈ Us ∧ x ∈ U.map Prod.fst ∧ U.length = W.length + V.length := by
  obtain ⟨Vs, hp⟩ := two_perm hW hV c
  refine (h.join hp hx hy).mono ?_
  rintro e w' ⟨he, hF, hK⟩
  refine ⟨he, _, _, hF, hK, hv.sub (fun U hU q hq => ?_), List.mem_cons_self, by rw [List.map_append]; exact List.mem_append_left _ hx, by simp⟩
  rcases List.mem_cons.1 hU with rfl | hU
  · rcases List.mem_append.1 hq with hq | hq
    · exact ⟨W, hW, hq⟩
    · exact ⟨V, hV, hq⟩
  · exact ⟨U, hp.mem_iff.2 (List.mem_cons_of_mem _ (List.mem_cons_of_mem _ hU)), hq⟩
theorem Fm.act_turn {vs : List Int} (h : Fm w0 w gs gn N cap Ws) (hv : Vok vs Ws) (hW : W ∈ Ws) (hx : x ∈ W.map Prod.fst) :
    Calls Try.prog 17 #[.pointer (some ⟨gs, 0, none⟩), .int .i64 x] w fun e w' => (∃ v, e = .returned v) ∧ ∃ Us, Fm w0 w' gs gn N cap Us ∧ Ke gs gn w w' ∧ Vok vs Us := by
  refine (h.turn (List.perm_cons_erase hW) hx).mono ?_
  rintro e w' ⟨he, hF, hK⟩
  refine ⟨he, _, hF, hK, hv.sub (fun U hU q hq => ?_)⟩
  rcases List.mem_cons.1 hU with rfl | hU
  · exact ⟨W, hW, List.mem_reverse.1 hq⟩
  · exact ⟨U, List.mem_of_mem_erase hU, hq⟩
theorem Fm.act_split {vs : List Int} (h : Fm w0 w gs gn N cap Ws) (hv : Vok vs Ws) (hW : L ++ (x, v) :: R ∈ Ws) :
    Calls Try.prog 18 #[.pointer (some ⟨gs, 0, none⟩), .int .i64 x] w fun e w' => e = .returned (.int .i64 0) ∧ ∃ Us, Fm w0 w' gs gn N cap Us ∧ Ke gs gn w w' ∧ Vok vs Us ∧ (x, v) :: R ∈ Us ∧ (L ≠ [] → L ∈ Us) := by
  refine (h.split (List.perm_cons_erase hW)).mono ?_
  rintro e w' ⟨he, hF, hK⟩
  refine ⟨he, _, hF, hK, hv.sub (fun U hU q hq => ?_), ?_, fun hL => ?_⟩
  · unfold cutL at hU
    rcases List.mem_append.1 hU with hU | hU
    · split at hU
      · cases hU
      · rw [List.mem_singleton] at hU
        subst hU
        exact ⟨_, hW, List.mem_append_left _ hq⟩
    · rcases List.mem_cons.1 hU with rfl | hU
      · exact ⟨_, hW, List.mem_append_right _ hq⟩
      · exact ⟨U, List.mem_of_mem_erase hU, hq⟩
  · unfold cutL
    exact List.mem_append_right _ List.mem_cons_self
  · unfold cutL
    rw [if_neg hL]
    exact List.mem_append_left _ (List.mem_singleton.2 rfl)
end
end Go.Proofs.YtcnmbgijehnchaaW.Splay
/- The calls, told by where an item stands. -/
namespace Go.Proofs.YtcnmbgijehnchaaW.Splay
open Go.RowKit Go.Shelf Go.Proofs.YtcnmbgijehnchaaW.PrintWords Go.Proofs.YtcnmbgijehnchaaW.PrintLast Go.Proofs.YtcnmbgijehnchaaW.PrintMore Go.Proofs.YtcnmbgijehnchaaW.Mine
section
variable {w0 w w1 : World} {g gs gn N cap : Nat} {xs : List Int} {Ws Vs : List (List (Int × Int))} {W V L R : List (Int × Int)} {x y v : Int} {k : Nat}
theorem key_part (hk : (W.map Prod.fst)[k]? = some y) : ∃ L v R, W = L ++ (y, v) :: R ∧ L.length = k := by
  rw [List.getElem?_map] at hk
  obtain ⟨⟨a, v⟩, h1, rfl⟩ := Option.map_eq_some_iff.1 hk
  obtain ⟨h2, h3⟩ := List.getElem?_eq_some_iff.1 h1
  refine ⟨W.take k, v, W.drop (k + 1), ?_, by rw [List.length_take]; omega⟩
  have h4 := List.drop_eq_getElem_cons h2
  rw [h3] at h4
  rw [← h4, List.take_append_drop]
theorem key_mem (hk : (W.map Prod.fst)[k]? = some y) : y ∈ W.map Prod.fst := List.mem_of_getElem? hk
theorem Fm.place_i (h : Fm w0 w gs gn N cap Ws) (hW : W ∈ Ws) (hk : (W.map Prod.fst)[k]? = some y) :
    Calls Try.prog 21 #[.pointer (some ⟨gs, 0, none⟩), .int .i64 y] w fun e w' => e = .returned (.int .i64 (k : Int)) ∧ Fm w0 w' gs gn N cap Ws ∧ Ke gs gn w w' := by
  obtain ⟨L, v, R, rfl, rfl⟩ := key_part hk
  exact h.place hW
theorem Fm.at_i (h : Fm w0 w gs gn N cap Ws) (hW : W ∈ Ws) (hx : x ∈ W.map Prod.fst) (hk : (W.map Prod.fst)[k]? = some y) :
    Calls Try.prog 22 #[.pointer (some ⟨gs, 0, none⟩), .int .i64 x, .int .i64 (k : Int)] w fun e w' => e = .returned (.int .i64 y) ∧ Fm w0 w' gs gn N cap Ws ∧ Ke gs gn w w' := by
  have h1 := h.at hW hx (k : Int)
  rw [if_neg (by omega), Int.toNat_natCast, List.getD_eq_getElem?_getD, hk] at h1
  exact h1
theorem Fm.first_i (h : Fm w0 w gs gn N cap Ws) (hW : W ∈ Ws) (hx : x ∈ W.map Prod.fst) (hk : (W.map Prod.fst)[0]? = some y) :
    Calls Try.prog 23 #[.pointer (some ⟨gs, 0, none⟩), .int .i64 x] w fun e w' => e = .returned (.int .i64 y) ∧ Fm w0 w' gs gn N cap Ws ∧ Ke gs gn w w' := by
  obtain ⟨L, v, R, rfl, hl⟩ := key_part hk
  have hl := List.eq_nil_of_length_eq_zero hl
  subst hl
  exact h.first hW hx
theorem Fm.last_i (h : Fm w0 w gs gn N cap Ws) (hW : W ∈ Ws) (hx : x ∈ W.map Prod.fst) {m : Nat} (hm : W.length = m + 1) (hk : (W.map Prod.fst)[m]? = some y) :
    Calls Try.prog 24 #[.pointer (some ⟨gs, 0, none⟩), .int .i64 x] w fun e w' => e = .returned (.int .i64 y) ∧ Fm w0 w' gs gn N cap Ws ∧ Ke gs gn w w' := by
  obtain ⟨L, v, R, rfl, hl⟩ := key_part hk
  rw [List.length_append, List.length_cons, hl] at hm
  have hR := List.eq_nil_of_length_eq_zero (l := R) (by omega)
  subst hR
  exact h.last hW hx
theorem key_at {n : Nat} (hn : W.length = n) (hk : k < n) : ∃ y, (W.map Prod.fst)[k]? = some y ∧ y ∈ W.map Prod.fst := by
  have h1 : k < (W.map Prod.fst).length := by rw [List.length_map, hn]; exact hk
  exact ⟨(W.map Prod.fst)[k], List.getElem?_eq_getElem h1, List.getElem_mem h1⟩
theorem key_find (hx : x ∈ W.map Prod.fst) : ∃ k, k < W.length ∧ (W.map Prod.fst)[k]? = some x := by
  obtain ⟨k, hk, e⟩ := List.mem_iff_getElem.1 hx
  refine ⟨k, by rw [List.length_map] at hk; exact hk, ?_⟩
  rw [List.getElem?_eq_getElem hk, e]
theorem Vok.pair {vs : List Int} (hv : Vok vs Ws) (hW : W ∈ Ws) {i : Nat} (hx : (i : Int) ∈ W.map Prod.fst) : ((i : Int), vs.getD i 0) ∈ W := by
  obtain ⟨⟨a, u⟩, hy, e⟩ := List.mem_map.1 hx
  have h1 := hv W hW _ hy
  have e : a = (i : Int) := e
  subst e
  rw [Int.toNat_natCast] at h1
  have h1 : u = vs.getD i 0 := h1
  rw [← h1]
  exact hy
theorem wr3 (m : Nat) (h : m ≤ 1000000) : wrap64 ((m : Int) + 1 - 1) = (m : Int) ∧ IntKind.i64.wrap ((m : Int) + 1 - 1) = (m : Int) ∧ wrap64 (m : Int) = (m : Int) ∧ IntKind.i64.wrap (m : Int) = (m : Int) ∧ IntKind.i64.wrap (((m + 1 : Nat) : Int) - 1) = (m : Int) := by
  refine ⟨?_, ?_, ?_, ?_, ?_⟩
  · unfold wrap64; omega
  · rw [IntKind.wrap_i64]; omega
  · unfold wrap64; omega
  · rw [IntKind.wrap_i64]; omega
  · rw [IntKind.wrap_i64]; omega
end
end Go.Proofs.YtcnmbgijehnchaaW.Splay
/- A new forest of values that are too great; sums that come back. -/
namespace Go.Proofs.YtcnmbgijehnchaaW.Splay
open Go.RowKit Go.Shelf Go.Proofs.YtcnmbgijehnchaaW.PrintWords Go.Proofs.YtcnmbgijehnchaaW.PrintLast Go.Proofs.YtcnmbgijehnchaaW.PrintMore Go.Proofs.YtcnmbgijehnchaaW.Mine
section
variable {w0 w : World} {gs gn N cap : Nat} {Ws Vs : List (List (Int × Int))} {W : List (Int × Int)} {x d : Int}
theorem new_outn {A : Option Addr} {vs : List Int} {c n : Nat} (hn : vs.length = n) (hb : Below w0.heap.size w0 w) (hr : Rds w A vs) (h1 : n ≤ 3000) (hv : ¬ ∀ v ∈ vs, -4611686018427387904 ≤ v ∧ v ≤ 4611686018427387904) :
    Calls Try.prog 14 #[.slice A n c] w fun e w' => e = .returned (.tuple #[.pointer none, .int .i64 3]) ∧ Below w.heap.size w w' := by
  subst hn
  exact new_out hb hr h1 hv
/-- What is added to a row. -/
def shiftW (d : Int) (W : List (Int × Int)) : List (Int × Int) := W.map fun y => (y.1, y.2 + d)
def FitsW (d : Int) (W : List (Int × Int)) : Prop := ∀ y ∈ W, -4611686018427387904 ≤ y.2 + d ∧ y.2 + d ≤ 4611686018427387904
theorem shift_keys (d : Int) (W : List (Int × Int)) : (shiftW d W).map Prod.fst = W.map Prod.fst := by simp [shiftW, List.map_map, Function.comp_def]
theorem shift_back (d : Int) (W : List (Int × Int)) : shiftW (-d) (shiftW d W) = W := by
  unfold shiftW
  rw [List.map_map]
  conv => rhs; rw [← List.map_id W]
  refine List.map_congr_left (fun y _ => ?_)
  show (y.1, y.2 + d + -d) = y
  rw [show y.2 + d + -d = y.2 by omega]
theorem Fm.add_ok (h : Fm w0 w gs gn N cap [W]) (hx : x ∈ W.map Prod.fst) (hd : -1000 ≤ d ∧ d ≤ 1000) (hf : FitsW d W) :
    Calls Try.prog 26 #[.pointer (some ⟨gs, 0, none⟩), .int .i64 x, .int .i64 d] w fun e w' => e = .returned (.int .i64 0) ∧ Fm w0 w' gs gn N cap [shiftW d W] ∧ Ke gs gn w w' := by
  refine (h.add (List.Perm.refl _) hx (by omega)).mono ?_
  rintro e w' ⟨⟨he, _, hF⟩ | ⟨_, ⟨y, hy, hn⟩, _⟩, hK⟩
  · exact ⟨he, hF, hK⟩
  · exact absurd (hf y hy) hn
theorem Fm.add_no (h : Fm w0 w gs gn N cap [W]) (hx : x ∈ W.map Prod.fst) (hd : -1000 ≤ d ∧ d ≤ 1000) (hf : ¬ FitsW d W) :
    Calls Try.prog 26 #[.pointer (some ⟨gs, 0, none⟩), .int .i64 x, .int .i64 d] w fun e w' => e = .returned (.int .i64 3) ∧ Fm w0 w' gs gn N cap [W] ∧ Ke gs gn w w' := by
  refine (h.add (List.Perm.refl _) hx (by omega)).mono ?_
  rintro e w' ⟨⟨_, ha, _⟩ | ⟨he, _, hF⟩, hK⟩
  · exact absurd ha hf
  · exact ⟨he, hF, hK⟩
theorem shift_zero (W : List (Int × Int)) : shiftW 0 W = W := by
  unfold shiftW
  conv => rhs; rw [← List.map_id W]
  refine List.map_congr_left (fun y _ => ?_)
  show (y.1, y.2 + 0) = y
  rw [Int.add_zero]
theorem Fm.add_any (h : Fm w0 w gs gn N cap [W]) (hx : x ∈ W.map Prod.fst) (hd : -1000 ≤ d ∧ d ≤ 1000) :
    Calls Try.prog 26 #[.pointer (some ⟨gs, 0, none⟩), .int .i64 x, .int .i64 d] w fun e w' => ∃ r c, e = .returned (.int .i64 r) ∧ Fm w0 w' gs gn N cap [shiftW c W] ∧ Ke gs gn w w' ∧ ((r = 0 ∧ c = d) ∨ (r = 3 ∧ c = 0 ∧ ¬ FitsW d W)) := by
  by_cases hf : FitsW d W
  · refine (h.add_ok hx hd hf).mono ?_
    rintro e w' ⟨he, hF, hK⟩
    exact ⟨0, d, he, hF, hK, .inl ⟨rfl, rfl⟩⟩
  · refine (h.add_no hx hd hf).mono ?_
    rintro e w' ⟨he, hF, hK⟩
    exact ⟨3, 0, he, by rw [shift_zero]; exact hF, hK, .inr ⟨rfl, rfl, hf⟩⟩
theorem fits_back (h : ∀ y ∈ W, -4611686018427387904 ≤ y.2 ∧ y.2 ≤ 4611686018427387904) : FitsW (-d) (shiftW d W) := by
  intro y hy
  obtain ⟨z, hz, rfl⟩ := List.mem_map.1 hy
  have := h z hz
  show -4611686018427387904 ≤ z.2 + d + -d ∧ z.2 + d + -d ≤ _
  omega
theorem Fm.add_two {r c : Int} (h : Fm w0 w gs gn N cap [shiftW c W]) (hb : ∀ y ∈ W, -4611686018427387904 ≤ y.2 ∧ y.2 ≤ 4611686018427387904) (hx : x ∈ W.map Prod.fst) (hd : -1000 ≤ -d ∧ -d ≤ 1000) (hc : (r = 0 ∧ c = d) ∨ (r = 3 ∧ c = 0 ∧ ¬ FitsW d W)) :
    Calls Try.prog 26 #[.pointer (some ⟨gs, 0, none⟩), .int .i64 x, .int .i64 (-d)] w fun e w' => ∃ r2 c2, e = .returned (.int .i64 r2) ∧ Fm w0 w' gs gn N cap [shiftW c2 W] ∧ Ke gs gn w w' ∧ ((r = 0 ∧ r2 = 0 ∧ c2 = 0) ∨ r = 3) := by
  rcases hc with ⟨rfl, rfl⟩ | ⟨rfl, rfl, _⟩
  · refine (h.add_ok (by rw [shift_keys]; exact hx) hd (fits_back hb)).mono ?_
    rintro e w' ⟨he, hF, hK⟩
    rw [shift_back] at hF
    exact ⟨0, 0, he, by rw [shift_zero]; exact hF, hK, .inl ⟨rfl, rfl, rfl⟩⟩
  · rw [shift_zero] at h
    refine (h.add_any hx hd).mono ?_
    rintro e w' ⟨r2, c2, he, hF, hK, _⟩
    exact ⟨r2, c2, he, hF, hK, .inr rfl⟩
theorem wrd {d : Int} (h : -1000 ≤ d ∧ d ≤ 1000) : wrap64 (-d) = -d ∧ wrap64 d = d := by
  constructor <;> unfold wrap64 <;> omega
theorem tmod_small (d : Int) : -1000 ≤ Int.tmod d 1000 ∧ Int.tmod d 1000 ≤ 1000 := by
  have h1 := Int.tmod_lt_of_pos d (show (0 : Int) < 1000 by decide)
  have h2 := Int.tmod_lt_of_pos (-d) (show (0 : Int) < 1000 by decide)
  rw [Int.neg_tmod] at h2
  omega
/-- What an item at a place is worth, against the first of the least ones. -/
theorem least_at {y : Int} (h : FirstLeast W y) : ∃ (kl : Nat) (m : Int), (y, m) ∈ W ∧ (W.map Prod.fst)[kl]? = some y ∧ ∀ (p : Nat) (u : Int × Int), W[p]? = some u → m ≤ u.2 ∧ (u.2 = m → kl ≤ p) := by
  obtain ⟨L, m, R, e, h1, h2⟩ := h
  subst e
  refine ⟨L.length, m, by simp, ?_, fun p u hu => ?_⟩
  · rw [List.getElem?_map, List.getElem?_append_right (Nat.le_refl _), Nat.sub_self]
    rfl
  · by_cases c : p < L.length
    · rw [List.getElem?_append_left c] at hu
      have := h1 u (List.mem_of_getElem? hu)
      exact ⟨by omega, fun e => by omega⟩
    · rw [List.getElem?_append_right (by omega)] at hu
      cases hp : p - L.length with
      | zero =>
        rw [hp] at hu
        have hu := Option.some.inj hu
        subst hu
        exact ⟨Int.le_refl _, fun _ => by omega⟩
      | succ q =>
        rw [hp, List.getElem?_cons_succ] at hu
        exact ⟨h2 u (List.mem_of_getElem? hu), fun _ => by omega⟩
theorem rowTo_pair {vs : List Int} {n : Nat} {q : Int × Int} (h : q ∈ rowTo vs n) : ∃ j : Nat, j < n ∧ q = item vs j := by
  obtain ⟨j, hj, e⟩ := List.mem_map.1 h
  exact ⟨j, List.mem_range.1 hj, e.symm⟩
/-- What an item at a place of the row is worth, and where the least one stands. -/
theorem back_facts {vs : List Int} {U : List (Int × Int)} {n p : Nat} {s2 yl : Int} (hU : U.Perm (rowTo vs n)) (hF : Fm w0 w gs gn N cap [shiftW s2 U]) (hl : U.length = n) (hy : FirstLeast (shiftW s2 U) yl) (hp : p < n) :
    ∃ (q0 : Nat) (u vq : Int) (kl : Nat) (mv : Int), U[p]? = some ((q0 : Int), u) ∧ True ∧ q0 < n ∧ ((q0 : Int), vq) ∈ shiftW s2 U ∧ (yl, mv) ∈ shiftW s2 U ∧ ((shiftW s2 U).map Prod.fst)[kl]? = some yl ∧ mv ≤ vq ∧ (vq = mv → kl ≤ p) ∧ (U.map Prod.fst)[p]? = some (q0 : Int) ∧ (s2 = 0 → vq = vs.getD q0 0) := by
  have h1 : U[p]? = some (U[p]'(by omega)) := List.getElem?_eq_getElem (by omega)
  obtain ⟨j, hj, e⟩ := rowTo_pair (hU.mem_iff.1 (List.getElem_mem (l := U) (n := p) (by omega)))
  rw [e] at h1
  obtain ⟨kl, mv, k1, k2, k3⟩ := least_at hy
  have h2 : (shiftW s2 U)[p]? = some ((j : Int), vs.getD j 0 + s2) := by
    unfold shiftW
    rw [List.getElem?_map, h1]
    rfl
  obtain ⟨m1, m2⟩ := k3 p _ h2
  refine ⟨j, vs.getD j 0, vs.getD j 0 + s2, kl, mv, h1, trivial, hj, List.mem_of_getElem? h2, k1, k2, m1, m2, ?_, fun e => by rw [e, Int.add_zero]⟩
  rw [List.getElem?_map, h1]
  rfl
end
end Go.Proofs.YtcnmbgijehnchaaW.Splay
