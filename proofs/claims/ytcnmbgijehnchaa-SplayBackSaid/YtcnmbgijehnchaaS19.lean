/- splay: the calls, told of a forest's rows alone. -/
import Derived.Test.YtcnmbgijehnchaaS18
import Derived.Test.YtcnmbgijehnchaaS13
set_option linter.unusedVariables false
set_option linter.unusedSimpArgs false
namespace Go.Proofs.YtcnmbgijehnchaaW.Splay
open Go.RowKit Go.Shelf Go.Proofs.YtcnmbgijehnchaaW.PrintWords Go.Proofs.YtcnmbgijehnchaaW.PrintLast Go.Proofs.YtcnmbgijehnchaaW.PrintMore Go.Proofs.YtcnmbgijehnchaaW.Mine
theorem nod_len : ∀ (n : Nat) (l : List Int), l.Nodup → (∀ x ∈ l, 0 ≤ x ∧ x < (n : Int)) → l.length ≤ n
  | 0, [], _, _ => Nat.le_refl _
  | 0, x :: l, _, h => by have := h x List.mem_cons_self; omega
  | n + 1, l, hn, h => by
    have h1 := nod_len n (l.erase (n : Int)) (hn.erase _) (fun x hx => by
      have h2 := h x (List.mem_of_mem_erase hx)
      have h3 : x ≠ (n : Int) := fun e => by
        subst e
        exact (List.Nodup.mem_erase_iff hn).1 hx |>.1 rfl
      omega)
    have h2 := List.length_erase (a := (n : Int)) (l := l)
    split at h2 <;> omega
/-- A forest that stands in the world, told by its rows. -/
structure Fm (w0 w : World) (gs gn N cap : Nat) (Ws : List (List (Int × Int))) : Prop where
  ex : ∃ s, St w0 w gs gn N cap s ∧ Fs s (N : Int) Ws
  bd : ∀ W ∈ Ws, ∀ y ∈ W, -4611686018427387904 ≤ y.2 ∧ y.2 ≤ 4611686018427387904
section
variable {w0 w W1 : World} {gs gn N cap : Nat} {Ws Vs : List (List (Int × Int))} {W : List (Int × Int)} {x y a b v m d : Int}
theorem Fm.perm (h : Fm w0 w gs gn N cap Ws) (hp : Ws.Perm Vs) : Fm w0 w gs gn N cap Vs := by
  obtain ⟨⟨s, h1, h2⟩, h3⟩ := h
  exact ⟨⟨s, h1, h2.perm hp⟩, fun W hW => h3 W (hp.mem_iff.2 hW)⟩
theorem Fm.below (h : Fm w0 w gs gn N cap Ws) (hb : Below w.heap.size w W1) : Fm w0 W1 gs gn N cap Ws := by
  obtain ⟨⟨s, h1, h2⟩, h3⟩ := h
  exact ⟨⟨s, h1.below hb, h2⟩, h3⟩
theorem Fm.drew (h : Fm w0 w gs gn N cap Ws) : Fm w0 w.drew gs gn N cap Ws := h.below (below_drew (Below.refl _ _))
theorem Fm.drewN (h : Fm w0 w gs gn N cap Ws) (n : Nat) : Fm w0 (w.drewN n) gs gn N cap Ws := h.below (pw_below_drewN (Below.refl _ _) n)
theorem Fm.ke (h : Fm w0 w gs gn N cap Ws) : gs < w.heap.size ∧ gn < w.heap.size ∧ w0.heap.size ≤ gs ∧ w0.heap.size ≤ gn ∧ w0.heap.size ≤ w.heap.size ∧ gs ≠ gn := by
  obtain ⟨⟨s, h1, h2⟩, h3⟩ := h
  exact h1.sp.ke
theorem Fm.old (h : Fm w0 w gs gn N cap Ws) : Below w0.heap.size w0 w := by
  obtain ⟨⟨s, h1, h2⟩, h3⟩ := h
  exact h1.sp.below
theorem Fm.small (h : Fm w0 w gs gn N cap Ws) : N ≤ 3000 := by
  obtain ⟨⟨s, h1, h2⟩, h3⟩ := h
  exact h1.small
theorem Fm.grown (h : Fm w0 w gs gn N cap Ws) {row : Option Nat} (hg : w.grownBy W1 row) (hr : ∀ r, row = some r → w0.heap.size ≤ r ∧ r ≠ gs ∧ r ≠ gn) : Fm w0 W1 gs gn N cap Ws := by
  obtain ⟨⟨s, h1, h2⟩, h3⟩ := h
  exact ⟨⟨s, ⟨h1.sp.grown hg hr, h1.good, h1.small⟩, h2⟩, h3⟩
theorem Fm.nodup (h : Fm w0 w gs gn N cap Ws) : (Ws.flatten.map Prod.fst).Nodup := by
  obtain ⟨⟨s, h1, h2⟩, h3⟩ := h
  exact h2.nod
theorem Fm.cover (h : Fm w0 w gs gn N cap Ws) (x : Int) : x ∈ Ws.flatten.map Prod.fst ↔ 0 ≤ x ∧ x < (N : Int) := by
  obtain ⟨⟨s, h1, h2⟩, h3⟩ := h
  exact h2.cover x
theorem Fm.ne (h : Fm w0 w gs gn N cap Ws) (hW : W ∈ Ws) : W ≠ [] := by
  obtain ⟨⟨s, h1, h2⟩, h3⟩ := h
  exact h2.ne W hW
theorem Fm.len (h : Fm w0 w gs gn N cap Ws) : Ws.flatten.length ≤ N := by
  have h1 := nod_len N (Ws.flatten.map Prod.fst) h.nodup (fun x hx => (h.cover x).1 hx)
  rwa [List.length_map] at h1
theorem mem_flat {W : List (Int × Int)} {Ws : List (List (Int × Int))} (hW : W ∈ Ws) {x : Int} (hx : x ∈ W.map Prod.fst) : x ∈ Ws.flatten.map Prod.fst := by
  obtain ⟨y, hy, rfl⟩ := List.mem_map.1 hx
  exact List.mem_map.2 ⟨y, List.mem_flatten.2 ⟨W, hW, hy⟩, rfl⟩
theorem Fm.item (h : Fm w0 w gs gn N cap Ws) (hW : W ∈ Ws) (hx : x ∈ W.map Prod.fst) : ∃ i : Nat, i < N ∧ x = (i : Int) := by
  have := (h.cover x).1 (mem_flat hW hx)
  exact ⟨x.toNat, by omega, by omega⟩
theorem Fm.row_of (h : Fm w0 w gs gn N cap Ws) (h0 : 0 ≤ x) (h1 : x < (N : Int)) : ∃ W ∈ Ws, x ∈ W.map Prod.fst := by
  obtain ⟨y, hy, rfl⟩ := List.mem_map.1 ((h.cover x).2 ⟨h0, h1⟩)
  obtain ⟨W, hW, hy⟩ := List.mem_flatten.1 hy
  exact ⟨W, hW, List.mem_map.2 ⟨y, hy, rfl⟩⟩
theorem Fm.rlen (h : Fm w0 w gs gn N cap Ws) (hW : W ∈ Ws) : W.length ≤ N := by
  have h1 := h.len
  have h2 : W.length ≤ Ws.flatten.length := (List.sublist_flatten_of_mem hW).length_le
  omega
/-- Who lies in two rows lies in one. -/
theorem nod_same : ∀ {Ws : List (List (Int × Int))}, (Ws.flatten.map Prod.fst).Nodup → ∀ {V W : List (Int × Int)} {x : Int}, V ∈ Ws → W ∈ Ws → x ∈ V.map Prod.fst → x ∈ W.map Prod.fst → V = W
  | [], _, _, _, _, h, _, _, _ => by cases h
  | U :: Ws, hn, V, W, x, hV, hW, xV, xW => by
    rw [List.flatten_cons, List.map_append] at hn
    obtain ⟨_, h2, h3⟩ := List.nodup_append.1 hn
    rcases List.mem_cons.1 hV with e1 | k1 <;> rcases List.mem_cons.1 hW with e2 | k2
    · exact e1.trans e2.symm
    · exact absurd rfl (h3 x (e1 ▸ xV) x (mem_flat k2 xW))
    · exact absurd rfl (h3 x (e2 ▸ xW) x (mem_flat k1 xV))
    · exact nod_same h2 k1 k2 xV xW
theorem Fm.bdP (h : Fm w0 w gs gn N cap Ws) (hp : Ws.Perm (W :: Vs)) : (∀ y ∈ W, -4611686018427387904 ≤ y.2 ∧ y.2 ≤ 4611686018427387904) ∧ ∀ V ∈ Vs, ∀ y ∈ V, -4611686018427387904 ≤ y.2 ∧ y.2 ≤ 4611686018427387904 :=
  ⟨h.bd W (hp.mem_iff.2 List.mem_cons_self), fun V hV => h.bd V (hp.mem_iff.2 (List.mem_cons_of_mem _ hV))⟩
theorem Fm.turn (h : Fm w0 w gs gn N cap Ws) (hp : Ws.Perm (W :: Vs)) (hx : x ∈ W.map Prod.fst) :
    Calls Try.prog 17 #[.pointer (some ⟨gs, 0, none⟩), .int .i64 x] w fun e w' => (∃ v, e = .returned v) ∧ Fm w0 w' gs gn N cap (W.reverse :: Vs) ∧ Ke gs gn w w' := by
  have hW : W ∈ Ws := hp.mem_iff.2 List.mem_cons_self
  obtain ⟨i, hi, rfl⟩ := h.item hW hx
  obtain ⟨b1, b2⟩ := h.bdP hp
  obtain ⟨⟨s, h1, h2⟩, h3⟩ := h
  have h2 := h2.perm hp
  obtain ⟨t, hz⟩ := h2.tree W List.mem_cons_self
  obtain ⟨s1, v, l, r, ⟨K, hK⟩, z1, f1⟩ := splay_ok hz hx
  refine (turn_calls (Pt.refl h1) K hi (hK K (Nat.le_refl _))).mono ?_
  rintro e w' ⟨he, hP⟩
  have z2 := turn_ok z1
  refine ⟨he, ⟨⟨_, hP.1, h2.step (Vs := [W.reverse]) (fun V hV => ?_) (fun V hV => ?_) ?_ (fun z z0 z3 => ?_)⟩, fun V hV y hy => ?_⟩, hP.2⟩
  · rw [List.mem_singleton] at hV
    subst hV
    exact ⟨_, z2⟩
  · rw [List.mem_singleton] at hV
    subst hV
    have := h2.ne W List.mem_cons_self
    simpa using this
  · simp only [List.flatten_cons, List.flatten_nil, List.append_nil, List.map_reverse]
    exact List.reverse_perm _
  · rw [← f1 z z0 z3]
    exact lay_ne (t := .nd (i : Int) v 0 false l r) (fun hc => z3 ((z1.mem z).1 (List.mem_append_left _ hc)))
  · rcases List.mem_cons.1 hV with rfl | hV
    · exact b1 y (List.mem_reverse.1 hy)
    · exact b2 V hV y hy
theorem Fm.value (h : Fm w0 w gs gn N cap Ws) (hW : W ∈ Ws) (hx : (x, v) ∈ W) :
    Calls Try.prog 25 #[.pointer (some ⟨gs, 0, none⟩), .int .i64 x] w fun e w' => e = .returned (.int .i64 v) ∧ Fm w0 w' gs gn N cap Ws ∧ Ke gs gn w w' := by
  obtain ⟨i, hi, rfl⟩ := h.item hW (List.mem_map.2 ⟨_, hx, rfl⟩)
  obtain ⟨⟨s, h1, h2⟩, h3⟩ := h
  obtain ⟨t, hz⟩ := h2.tree W hW
  obtain ⟨s1, t1, ⟨K, hK⟩, z1, f1⟩ := value_ok hz hx
  refine (value_calls (Pt.refl h1) K hi (hK K (Nat.le_refl _))).mono ?_
  rintro e w' ⟨he, hP⟩
  exact ⟨he, ⟨⟨_, hP.1, h2.keepM hW z1 f1⟩, h3⟩, hP.2⟩
theorem Fm.place (h : Fm w0 w gs gn N cap Ws) {L R : List (Int × Int)} (hW : L ++ (x, v) :: R ∈ Ws) :
    Calls Try.prog 21 #[.pointer (some ⟨gs, 0, none⟩), .int .i64 x] w fun e w' => e = .returned (.int .i64 (L.length : Int)) ∧ Fm w0 w' gs gn N cap Ws ∧ Ke gs gn w w' := by
  have hx : x ∈ (L ++ (x, v) :: R).map Prod.fst := by simp
  obtain ⟨i, hi, rfl⟩ := h.item hW hx
  obtain ⟨⟨s, h1, h2⟩, h3⟩ := h
  obtain ⟨t, hz⟩ := h2.tree _ hW
  obtain ⟨s1, t1, L', R', v', he, ⟨K, hK⟩, z1, f1⟩ := place_ok hz hx
  obtain ⟨rfl, _, _⟩ := key_uniq he hz.nodup
  refine (place_calls (Pt.refl h1) K hi (hK K (Nat.le_refl _))).mono ?_
  rintro e w' ⟨he, hP⟩
  exact ⟨he, ⟨⟨_, hP.1, h2.keepM hW z1 f1⟩, h3⟩, hP.2⟩
theorem Fm.at (h : Fm w0 w gs gn N cap Ws) (hW : W ∈ Ws) (hx : x ∈ W.map Prod.fst) (pl : Int) :
    Calls Try.prog 22 #[.pointer (some ⟨gs, 0, none⟩), .int .i64 x, .int .i64 pl] w fun e w' => e = .returned (.int .i64 (if pl < 0 then -1 else (W.map Prod.fst).getD pl.toNat (-1))) ∧ Fm w0 w' gs gn N cap Ws ∧ Ke gs gn w w' := by
  obtain ⟨i, hi, rfl⟩ := h.item hW hx
  obtain ⟨⟨s, h1, h2⟩, h3⟩ := h
  obtain ⟨t, hz⟩ := h2.tree W hW
  obtain ⟨s1, t1, ⟨K, hK⟩, z1, f1⟩ := at_ok (pl := pl) hz hx
  refine (at_calls (Pt.refl h1) K hi (hK K (Nat.le_refl _))).mono ?_
  rintro e w' ⟨he, hP⟩
  exact ⟨he, ⟨⟨_, hP.1, h2.keepM hW z1 f1⟩, h3⟩, hP.2⟩
theorem Fm.first (h : Fm w0 w gs gn N cap Ws) {R : List (Int × Int)} (hW : (y, v) :: R ∈ Ws) (hx : x ∈ ((y, v) :: R).map Prod.fst) :
    Calls Try.prog 23 #[.pointer (some ⟨gs, 0, none⟩), .int .i64 x] w fun e w' => e = .returned (.int .i64 y) ∧ Fm w0 w' gs gn N cap Ws ∧ Ke gs gn w w' := by
  obtain ⟨i, hi, rfl⟩ := h.item hW hx
  obtain ⟨⟨s, h1, h2⟩, h3⟩ := h
  obtain ⟨t, hz⟩ := h2.tree _ hW
  obtain ⟨s1, v1, l, r, ⟨K, hK⟩, z1, f1⟩ := splay_ok hz hx
  obtain ⟨s2, y2, vy, r2, ⟨K2, hK2⟩, z2, e2, f2⟩ := first_ok z1
  injection e2 with e3 e4
  injection e3 with e5 e6
  subst e5
  refine (first_calls (Pt.refl h1) (K + K2) hi (hK _ (by omega)) (hK2 _ (by omega))).mono ?_
  rintro e w' ⟨he, hP, _⟩
  exact ⟨he, ⟨⟨_, hP.1, h2.keepM hW z2 (fun z a1 a2 => (f2 z a1 a2).trans (f1 z a1 a2))⟩, h3⟩, hP.2⟩
theorem Fm.last (h : Fm w0 w gs gn N cap Ws) {L : List (Int × Int)} (hW : L ++ [(y, v)] ∈ Ws) (hx : x ∈ (L ++ [(y, v)]).map Prod.fst) :
    Calls Try.prog 24 #[.pointer (some ⟨gs, 0, none⟩), .int .i64 x] w fun e w' => e = .returned (.int .i64 y) ∧ Fm w0 w' gs gn N cap Ws ∧ Ke gs gn w w' := by
  obtain ⟨i, hi, rfl⟩ := h.item hW hx
  obtain ⟨⟨s, h1, h2⟩, h3⟩ := h
  obtain ⟨t, hz⟩ := h2.tree _ hW
  obtain ⟨s1, v1, l, r, ⟨K, hK⟩, z1, f1⟩ := splay_ok hz hx
  obtain ⟨s2, y2, vy, r2, ⟨K2, hK2⟩, z2, e2, f2⟩ := last_ok z1
  have e3 := List.append_inj_right' e2 rfl
  injection e3 with e4 _
  injection e4 with e5 e6
  subst e5
  refine (last_calls (Pt.refl h1) (K + K2) hi (hK _ (by omega)) (hK2 _ (by omega))).mono ?_
  rintro e w' ⟨he, hP, _⟩
  exact ⟨he, ⟨⟨_, hP.1, h2.keepM hW z2 (fun z a1 a2 => (f2 z a1 a2).trans (f1 z a1 a2))⟩, h3⟩, hP.2⟩
/-- A least item that is the first one. -/
def FirstLeast (W : List (Int × Int)) (y : Int) : Prop := ∃ L m R, W = L ++ (y, m) :: R ∧ (∀ q ∈ L, m < q.2) ∧ ∀ q ∈ R, m ≤ q.2
theorem Fm.least (h : Fm w0 w gs gn N cap Ws) (hW : W ∈ Ws) (hx : x ∈ W.map Prod.fst) :
    Calls Try.prog 16 #[.pointer (some ⟨gs, 0, none⟩), .int .i64 x] w fun e w' => (∃ y, e = .returned (.int .i64 y) ∧ FirstLeast W y) ∧ Fm w0 w' gs gn N cap Ws ∧ Ke gs gn w w' := by
  obtain ⟨i, hi, rfl⟩ := h.item hW hx
  obtain ⟨⟨s, h1, h2⟩, h3⟩ := h
  obtain ⟨t, hz⟩ := h2.tree W hW
  obtain ⟨s1, t1, L, y, m, R, e1, e2, e3, ⟨K, hK⟩, z1, f1⟩ := least_ok hz hx
  refine (least_calls (Pt.refl h1) K hi (hK K (Nat.le_refl _))).mono ?_
  rintro e w' ⟨he, hP⟩
  exact ⟨⟨y, he, L, m, R, e1, e2, e3⟩, ⟨⟨_, hP.1, h2.keepM hW z1 f1⟩, h3⟩, hP.2⟩
theorem Fm.least_out (h : Fm w0 w gs gn N cap Ws) (hx : ¬ (0 ≤ x ∧ x < (N : Int))) :
    Calls Try.prog 16 #[.pointer (some ⟨gs, 0, none⟩), .int .i64 x] w fun e w' => e = .returned (.int .i64 (-1)) ∧ w' = w := by
  obtain ⟨⟨s, h1, h2⟩, h3⟩ := h
  exact Splay.least_out (Pt.refl h1) hx
/-- What a cut leaves. -/
def cutL (L R : List (Int × Int)) (Vs : List (List (Int × Int))) : List (List (Int × Int)) := (if L = [] then [] else [L]) ++ R :: Vs
theorem Fm.split (h : Fm w0 w gs gn N cap Ws) {L R : List (Int × Int)} (hp : Ws.Perm ((L ++ (x, v) :: R) :: Vs)) :
    Calls Try.prog 18 #[.pointer (some ⟨gs, 0, none⟩), .int .i64 x] w fun e w' => e = .returned (.int .i64 0) ∧ Fm w0 w' gs gn N cap (cutL L ((x, v) :: R) Vs) ∧ Ke gs gn w w' := by
  have hW : L ++ (x, v) :: R ∈ Ws := hp.mem_iff.2 List.mem_cons_self
  have hx : x ∈ (L ++ (x, v) :: R).map Prod.fst := by simp
  obtain ⟨i, hi, rfl⟩ := h.item hW hx
  obtain ⟨b1, b2⟩ := h.bdP hp
  obtain ⟨⟨s, h1, h2⟩, h3⟩ := h
  have h2 := h2.perm hp
  obtain ⟨t, hz⟩ := h2.tree _ List.mem_cons_self
  obtain ⟨s1, v1, l, r, ⟨K, hK⟩, z1, f1⟩ := splay_ok hz hx
  have hm := z1.mid
  obtain ⟨eL, ev, eR⟩ := key_uniq hm hz.nodup
  refine (split_calls (Pt.refl h1) K hi (hK K (Nat.le_refl _))).mono ?_
  rintro e w' ⟨he, hP⟩
  have hbd : ∀ V ∈ cutL L (((i : Int), v) :: R) Vs, ∀ y ∈ V, -4611686018427387904 ≤ y.2 ∧ y.2 ≤ 4611686018427387904 := by
    intro V hV y hy
    unfold cutL at hV
    rcases List.mem_append.1 hV with hV | hV
    · split at hV
      · cases hV
      · rw [List.mem_singleton] at hV
        subst hV
        exact b1 y (List.mem_append_left _ hy)
    · rcases List.mem_cons.1 hV with rfl | hV
      · exact b1 y (List.mem_append_right _ hy)
      · exact b2 V hV y hy
  rcases split_ok z1 with ⟨hl, e1⟩ | ⟨hl, z2, z3, f2⟩
  · subst hl
    have hL : L = [] := eL
    subst hL
    rw [e1] at hP
    exact ⟨he, ⟨⟨_, hP.1, h2.keep z1 f1⟩, hbd⟩, hP.2⟩
  · have hL : L ≠ [] := fun e => hl (sq_nil (eL ▸ e))
    have ec : cutL L (((i : Int), v) :: R) Vs = [L, ((i : Int), v) :: R] ++ Vs := by
      unfold cutL
      rw [if_neg hL]
      rfl
    rw [← ev, ← eR] at z3
    rw [← eL] at z2
    refine ⟨he, ⟨⟨_, hP.1, ?_⟩, hbd⟩, hP.2⟩
    rw [ec]
    refine h2.step (fun V hV => ?_) (fun V hV => ?_) ?_ (fun z z0 z4 => (f2 z z0 z4).trans (f1 z z0 z4))
    · rcases List.mem_cons.1 hV with rfl | hV
      · exact ⟨_, z2⟩
      · rw [List.mem_singleton] at hV
        subst hV
        exact ⟨_, z3⟩
    · rcases List.mem_cons.1 hV with rfl | hV
      · exact hL
      · rw [List.mem_singleton] at hV
        subst hV
        simp
    · simp
theorem Fm.join (h : Fm w0 w gs gn N cap Ws) {Wa Wb : List (Int × Int)} (hp : Ws.Perm (Wa :: Wb :: Vs)) (xa : a ∈ Wa.map Prod.fst) (xb : b ∈ Wb.map Prod.fst) :
    Calls Try.prog 15 #[.pointer (some ⟨gs, 0, none⟩), .int .i64 a, .int .i64 b] w fun e w' => e = .returned (.int .i64 0) ∧ Fm w0 w' gs gn N cap ((Wa ++ Wb) :: Vs) ∧ Ke gs gn w w' := by
  have hA : Wa ∈ Ws := hp.mem_iff.2 List.mem_cons_self
  have hB : Wb ∈ Ws := hp.mem_iff.2 (List.mem_cons_of_mem _ List.mem_cons_self)
  obtain ⟨i, hi, rfl⟩ := h.item hA xa
  obtain ⟨j, hj, rfl⟩ := h.item hB xb
  have hlen := h.len
  have hsm := h.small
  have hbd := h.bd
  obtain ⟨⟨s, h1, h2⟩, h3⟩ := h
  have h2 := h2.perm hp
  obtain ⟨ta, za⟩ := h2.tree Wa List.mem_cons_self
  obtain ⟨tb, zb⟩ := h2.tree Wb (List.mem_cons_of_mem _ List.mem_cons_self)
  have hn := h2.nod
  rw [List.flatten_cons, List.flatten_cons, ← List.append_assoc, List.map_append] at hn
  have hn1 := (List.nodup_append.1 hn).1
  have hl2 : (Wa ++ Wb).length ≤ 1000000 := by
    have h4 := hp.flatten.length_eq
    rw [List.flatten_cons, List.flatten_cons, ← List.append_assoc, List.length_append] at h4
    omega
  have hne : i ≠ j := fun e => by
    subst e
    rw [List.map_append] at hn1
    exact (List.nodup_append.1 hn1).2.2 _ xa _ xb rfl
  obtain ⟨s1, t1, ⟨K, hK⟩, z1, f1⟩ := join_ok za zb xa xb hn1 hl2
  refine (join_calls (Pt.refl h1) K hi hj hne (hK K (Nat.le_refl _))).mono ?_
  rintro e w' ⟨he, hP⟩
  refine ⟨he, ⟨⟨_, hP.1, ?_⟩, fun V hV y hy => ?_⟩, hP.2⟩
  · have hperm : (((Wa ++ Wb) :: Vs).flatten).Perm (Wa :: Wb :: Vs).flatten := by
      rw [List.flatten_cons, List.flatten_cons, List.flatten_cons, List.append_assoc]
    have hpm := hperm.map Prod.fst
    refine ⟨fun V hV => ?_, fun V hV => ?_, hpm.nodup_iff.2 h2.nod, fun x => hpm.mem_iff.trans (h2.cover x)⟩
    · rcases List.mem_cons.1 hV with rfl | hV
      · exact ⟨_, z1⟩
      · obtain ⟨t, hz⟩ := h2.tree V (List.mem_cons_of_mem _ (List.mem_cons_of_mem _ hV))
        refine ⟨t, hz.frame (fun z hzV => f1 z ?_ (fun hzW => ?_))⟩
        · have := (h2.cover z).1 (mem_flat (List.mem_cons_of_mem _ (List.mem_cons_of_mem _ hV)) hzV)
          omega
        · exact (List.nodup_append.1 hn).2.2 z hzW z (mem_flat hV hzV) rfl
    · rcases List.mem_cons.1 hV with rfl | hV
      · have := h2.ne Wa List.mem_cons_self
        intro e
        exact this (List.append_eq_nil_iff.1 e).1
      · exact h2.ne V (List.mem_cons_of_mem _ (List.mem_cons_of_mem _ hV))
  · rcases List.mem_cons.1 hV with rfl | hV
    · rcases List.mem_append.1 hy with hy | hy
      · exact hbd Wa hA y hy
      · exact hbd Wb hB y hy
    · exact hbd V (hp.mem_iff.2 (List.mem_cons_of_mem _ (List.mem_cons_of_mem _ hV))) y hy
theorem Fm.join_same (h : Fm w0 w gs gn N cap Ws) (hW : W ∈ Ws) (xa : a ∈ W.map Prod.fst) (xb : b ∈ W.map Prod.fst) :
    Calls Try.prog 15 #[.pointer (some ⟨gs, 0, none⟩), .int .i64 a, .int .i64 b] w fun e w' => e = .returned (.int .i64 5) ∧ Fm w0 w' gs gn N cap Ws ∧ Ke gs gn w w' := by
  obtain ⟨i, hi, rfl⟩ := h.item hW xa
  obtain ⟨j, hj, rfl⟩ := h.item hW xb
  obtain ⟨⟨s, h1, h2⟩, h3⟩ := h
  by_cases hne : i = j
  · subst hne
    refine (join_self (Pt.refl h1) hi).mono ?_
    rintro e w' ⟨he, hP⟩
    exact ⟨he, ⟨⟨_, hP.1, h2⟩, h3⟩, hP.2⟩
  · obtain ⟨t, hz⟩ := h2.tree W hW
    obtain ⟨s1, t1, ⟨K, hK⟩, z1, f1⟩ := Splay.join_same hz xa xb
    refine (join_calls (Pt.refl h1) K hi hj hne (hK K (Nat.le_refl _))).mono ?_
    rintro e w' ⟨he, hP⟩
    exact ⟨he, ⟨⟨_, hP.1, h2.keepM hW z1 f1⟩, h3⟩, hP.2⟩
theorem Fm.add (h : Fm w0 w gs gn N cap Ws) (hp : Ws.Perm (W :: Vs)) (hx : x ∈ W.map Prod.fst) (hd : -9223372036854775808 ≤ d ∧ d ≤ 9223372036854775807) :
    Calls Try.prog 26 #[.pointer (some ⟨gs, 0, none⟩), .int .i64 x, .int .i64 d] w fun e w' => ((e = .returned (.int .i64 0) ∧ (∀ y ∈ W, -4611686018427387904 ≤ y.2 + d ∧ y.2 + d ≤ 4611686018427387904) ∧ Fm w0 w' gs gn N cap ((W.map fun y => (y.1, y.2 + d)) :: Vs)) ∨
      (e = .returned (.int .i64 3) ∧ (∃ y ∈ W, ¬ (-4611686018427387904 ≤ y.2 + d ∧ y.2 + d ≤ 4611686018427387904)) ∧ Fm w0 w' gs gn N cap (W :: Vs))) ∧ Ke gs gn w w' := by
  have hW : W ∈ Ws := hp.mem_iff.2 List.mem_cons_self
  obtain ⟨i, hi, rfl⟩ := h.item hW hx
  obtain ⟨b1, b2⟩ := h.bdP hp
  obtain ⟨⟨s, h1, h2⟩, h3⟩ := h
  have h2 := h2.perm hp
  obtain ⟨t, hz⟩ := h2.tree W List.mem_cons_self
  obtain ⟨s1, t1, f1, ⟨e1, ⟨K, hK⟩, z1⟩ | ⟨e1, ⟨K, hK⟩, z1⟩⟩ := add_ok hz hx hd b1
  · refine (add_calls (Pt.refl h1) K hi (hK K (Nat.le_refl _))).mono ?_
    rintro e w' ⟨he, hP⟩
    refine ⟨.inl ⟨he, e1, ⟨⟨_, hP.1, h2.step (Vs := [W.map fun y : Int × Int => (y.1, y.2 + d)]) (fun V hV => ?_) (fun V hV => ?_) ?_ f1⟩, fun V hV y hy => ?_⟩⟩, hP.2⟩
    · rw [List.mem_singleton] at hV
      subst hV
      exact ⟨_, z1⟩
    · rw [List.mem_singleton] at hV
      subst hV
      have := h2.ne W List.mem_cons_self
      simpa using this
    · simp [List.map_map, Function.comp_def]
    · rcases List.mem_cons.1 hV with rfl | hV
      · obtain ⟨q, hq, rfl⟩ := List.mem_map.1 hy
        exact e1 q hq
      · exact b2 V hV y hy
  · refine (add_calls (Pt.refl h1) K hi (hK K (Nat.le_refl _))).mono ?_
    rintro e w' ⟨he, hP⟩
    refine ⟨.inr ⟨he, e1, ⟨⟨_, hP.1, h2.keep z1 f1⟩, fun V hV y hy => ?_⟩⟩, hP.2⟩
    rcases List.mem_cons.1 hV with rfl | hV
    · exact b1 y hy
    · exact b2 V hV y hy
theorem Fm.row (h : Fm w0 w gs gn N cap Ws) (hW : W ∈ Ws) (hx : x ∈ W.map Prod.fst) :
    Calls Try.prog 20 #[.pointer (some ⟨gs, 0, none⟩), .int .i64 x] w fun e w' => ∃ u, e = .returned u ∧ w'.ownsRow w.heap.size 3 1 u W.length (ints (W.map Prod.fst)) ∧ Fm w0 w' gs gn N cap Ws ∧ Below w.heap.size w w' := by
  have hl := h.rlen hW
  have hs := h.small
  obtain ⟨i, hi, rfl⟩ := h.item hW hx
  have h0 := h
  obtain ⟨⟨s, h1, h2⟩, h3⟩ := h
  obtain ⟨t, hz⟩ := h2.tree W hW
  refine (row_calls (Pt.refl h1) 4000000 (Nat.le_refl _) hi (by rw [List.length_map]; omega) (row_ok hz hx _ (Nat.le_refl _))).mono ?_
  rintro e w' ⟨u, he, hb, ho⟩
  rw [List.length_map] at ho
  exact ⟨u, he, ho, h0.below hb, hb⟩
theorem ones_bd {vs : List Int} (hv : ∀ v ∈ vs, -4611686018427387904 ≤ v ∧ v ≤ 4611686018427387904) : ∀ W ∈ ones vs, ∀ y ∈ W, -4611686018427387904 ≤ y.2 ∧ y.2 ≤ 4611686018427387904 := by
  intro W hW y hy
  obtain ⟨i, hi, rfl⟩ := List.mem_map.1 hW
  rw [List.mem_singleton] at hy
  subst hy
  have hi := List.mem_range.1 hi
  show _ ≤ vs.getD i 0 ∧ vs.getD i 0 ≤ _
  rw [getD_at hi]
  exact hv _ (List.getElem_mem hi)
theorem Fm.new {A : Option Addr} {vs : List Int} {c : Nat} (hb : Below w0.heap.size w0 w) (hr : Rds w A vs) (h1 : vs.length ≤ 3000) (h0 : 0 < vs.length) (hv : ∀ v ∈ vs, -4611686018427387904 ≤ v ∧ v ≤ 4611686018427387904) :
    Calls Try.prog 14 #[.slice A vs.length c] w fun e w' => e = .returned (.tuple #[.pointer (some ⟨w.heap.size, 0, none⟩), .int .i64 0]) ∧ Below w.heap.size w w' ∧ ∃ gn cap, Fm w0 w' w.heap.size gn vs.length cap (ones vs) := by
  refine (new_calls hb hr h1).mono ?_
  rintro e w' ⟨hB, ⟨j, hj, ho, _⟩ | ⟨_, he, v, hx, ho⟩⟩
  · rw [getD_at hj] at ho
    have := hv _ (List.getElem_mem hj)
    omega
  · obtain ⟨hl, ⟨_, hn⟩ | ⟨g, cap, cur, rfl, hg, hh, h2, h3, h4, h5⟩⟩ := ho
    · omega
    · have hz := hb.size
      have hN : ∀ i : Nat, i < vs.length → Nc cur i (newFo vs (i : Int)) := by
        intro i hi
        have at_ : ∀ j u, j < 9 → (ndc (vs.getD i 0))[j]? = some u → cur[i * 9 + j]? = some u := fun j u hj hu => by
          rw [← ndcs_at vs i j hi hj, ← h5, List.getElem?_take] at hu
          split at hu
          · rwa [Array.getElem?_toList] at hu
          · cases hu
        exact ⟨at_ 0 _ (by omega) rfl, at_ 1 _ (by omega) rfl, at_ 2 _ (by omega) rfl, at_ 3 _ (by omega) rfl, at_ 4 _ (by omega) rfl, at_ 5 _ (by omega) rfl, at_ 6 _ (by omega) rfl, at_ 7 _ (by omega) rfl, at_ 8 _ (by omega) rfl⟩
      refine ⟨he, hB, g, cap, ⟨newFo vs, ⟨⟨hb.trans (hB.mono hz), ⟨0, ?_⟩, ⟨cur, ?_, hN⟩⟩, fun i hi => ⟨.inl rfl, .inl rfl, .inl rfl⟩, h1⟩, new_ok (fun v hv' => ?_)⟩, ones_bd hv⟩
      · exact ⟨by unfold og; simp, hz, hx⟩
      · refine ⟨?_, by omega, hh⟩
        unfold og
        rw [if_neg (by omega), if_pos rfl]
      · have := hv v hv'
        unfold wrap64
        omega
theorem new_out {A : Option Addr} {vs : List Int} {c : Nat} (hb : Below w0.heap.size w0 w) (hr : Rds w A vs) (h1 : vs.length ≤ 3000) (hv : ¬ ∀ v ∈ vs, -4611686018427387904 ≤ v ∧ v ≤ 4611686018427387904) :
    Calls Try.prog 14 #[.slice A vs.length c] w fun e w' => e = .returned (.tuple #[.pointer none, .int .i64 3]) ∧ Below w.heap.size w w' := by
  refine (new_calls hb hr h1).mono ?_
  rintro e w' ⟨hB, ⟨j, hj, ho, he⟩ | ⟨hv', _⟩⟩
  · exact ⟨he, hB⟩
  · exact absurd hv' hv
end
end Go.Proofs.YtcnmbgijehnchaaW.Splay
