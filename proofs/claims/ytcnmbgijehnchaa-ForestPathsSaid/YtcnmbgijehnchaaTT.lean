/- Walks by hand, put together. -/
import Derived.Test.YtcnmbgijehnchaaSS
import Derived.Deep.RegionHeld3
import Derived.Ground.NamesProg
import Derived.Shelf.Lay
import Derived.Shelf.Slices.Cells
import Derived.Shelf.Spec.SlicesInsert
import Derived.Shelf.Bits.Mul64
set_option linter.unusedVariables false
set_option linter.unusedSimpArgs false
/- Trees told by who is above whom, and rows along the ways up: plain Lean, no program. -/
namespace Go.Proofs.YtcnmbgijehnchaaW.Splay
/-- A way up: each node's next one is above it, and the last one is a root. -/
def IsPath (up : Int → Int) : List Int → Prop
  | [] => False
  | [v] => up v = -1
  | v :: u :: l => up v = u ∧ IsPath up (u :: l)
def Seg (up : Int → Int) : List Int → Prop
  | [] => True
  | [_] => True
  | v :: u :: l => up v = u ∧ Seg up (u :: l)
theorem IsPath.ne {up : Int → Int} {p : List Int} (h : IsPath up p) : p ≠ [] := fun e => by rw [e] at h; exact h
theorem IsPath.tail {up : Int → Int} {v : Int} {p : List Int} (h : IsPath up (v :: p)) (hp : p ≠ []) : IsPath up p := by
  cases p with
  | nil => exact absurd rfl hp
  | cons u l => exact h.2
theorem IsPath.suffix {up : Int → Int} : ∀ {a b : List Int}, IsPath up (a ++ b) → b ≠ [] → IsPath up b
  | [], b, h, _ => h
  | x :: a, b, h, hb => IsPath.suffix (a := a) (IsPath.tail h (by simp [hb])) hb
theorem IsPath.uniq {up : Int → Int} : ∀ {p q : List Int}, IsPath up p → IsPath up q → (∀ x ∈ p, x ≠ -1) → (∀ x ∈ q, x ≠ -1) → p.head? = q.head? → p = q
  | [], _, h, _, _, _, _ => h.elim
  | _ :: _, [], _, h, _, _, _ => h.elim
  | [v], [u], _, _, _, _, e => by simpa using e
  | [v], u :: u2 :: l, h, k, _, kn, e => by
    have e : v = u := by simpa using e
    subst e
    have h : up v = -1 := h
    have := kn u2 (by simp)
    exact absurd (k.1.symm.trans h) this
  | v :: v2 :: l, [u], h, k, hn, _, e => by
    have e : v = u := by simpa using e
    subst e
    have k : up v = -1 := k
    have := hn v2 (by simp)
    exact absurd (h.1.symm.trans k) this
  | v :: v2 :: l, u :: u2 :: m, h, k, hn, kn, e => by
    have e : v = u := by simpa using e
    subst e
    have e2 : v2 = u2 := h.1.symm.trans k.1
    have := IsPath.uniq h.2 k.2 (fun x hx => hn x (List.mem_cons_of_mem _ hx)) (fun x hx => kn x (List.mem_cons_of_mem _ hx)) (by simp [e2])
    rw [this]
theorem IsPath.nodup {up : Int → Int} : ∀ {p : List Int}, IsPath up p → (∀ x ∈ p, x ≠ -1) → p.Nodup
  | [], h, _ => h.elim
  | v :: l, h, hn => by
    refine List.nodup_cons.2 ⟨fun hv => ?_, ?_⟩
    · obtain ⟨a, b, e⟩ := List.append_of_mem hv
      subst e
      have h2 : IsPath up (v :: b) := IsPath.suffix (a := v :: a) (by simpa using h) (by simp)
      have h3 := IsPath.uniq h h2 hn (fun x hx => hn x (List.mem_cons_of_mem _ (List.mem_append_right _ hx))) rfl
      have h4 := congrArg List.length h3
      simp at h4
      omega
    · cases l with
      | nil => exact List.nodup_nil
      | cons u l => exact IsPath.nodup h.2 (fun x hx => hn x (List.mem_cons_of_mem _ hx))
theorem Seg.tail {up : Int → Int} {v : Int} {l : List Int} (h : Seg up (v :: l)) : Seg up l := by
  cases l with
  | nil => trivial
  | cons u l => exact h.2
theorem Seg.suffix {up : Int → Int} : ∀ {a b : List Int}, Seg up (a ++ b) → Seg up b
  | [], _, h => h
  | x :: a, b, h => Seg.suffix (a := a) h.tail
theorem Seg.ahead {up : Int → Int} : ∀ {a b : List Int}, Seg up (a ++ b) → Seg up a
  | [], _, _ => trivial
  | [x], _, _ => trivial
  | x :: y :: a, b, h => ⟨h.1, Seg.ahead (a := y :: a) h.2⟩
theorem Seg.join {up : Int → Int} : ∀ {a b : List Int} {z w : Int}, Seg up (a ++ [z]) → up z = w → Seg up (w :: b) → Seg up (a ++ [z] ++ w :: b)
  | [], b, z, w, _, h2, h3 => ⟨h2, h3⟩
  | [x], b, z, w, h1, h2, h3 => ⟨h1.1, h2, h3⟩
  | x :: y :: a, b, z, w, h1, h2, h3 => ⟨h1.1, Seg.join (a := y :: a) h1.2 h2 h3⟩
theorem Seg.mid {up : Int → Int} : ∀ {a b : List Int} {z w : Int}, Seg up (a ++ z :: w :: b) → up z = w
  | [], _, _, _, h => h.1
  | [x], _, _, _, h => h.2.1
  | x :: y :: a, b, z, w, h => Seg.mid (a := y :: a) h.2
theorem IsPath.seg {up : Int → Int} : ∀ {p : List Int}, IsPath up p → Seg up p
  | [], h => h.elim
  | [_], _ => trivial
  | v :: u :: l, h => ⟨h.1, IsPath.seg (p := u :: l) h.2⟩
theorem IsPath.of_seg {up : Int → Int} : ∀ {a : List Int} {z : Int}, Seg up (a ++ [z]) → up z = -1 → IsPath up (a ++ [z])
  | [], z, _, h => h
  | [x], z, h1, h2 => ⟨h1.1, h2⟩
  | x :: y :: a, z, h1, h2 => ⟨h1.1, IsPath.of_seg (a := y :: a) h1.2 h2⟩
theorem IsPath.last {up : Int → Int} : ∀ {a : List Int} {z : Int}, IsPath up (a ++ [z]) → up z = -1
  | [], z, h => h
  | [x], z, h => h.2
  | x :: y :: a, z, h => IsPath.last (a := y :: a) h.2
/-- A row along the way up is the way's beginning. -/
theorem Seg.prefix_path {up : Int → Int} : ∀ {K p : List Int}, Seg up K → IsPath up p → (∀ x ∈ K, x ≠ -1) → (∀ x ∈ p, x ≠ -1) → K ≠ [] → K.head? = p.head? → ∃ q, p = K ++ q
  | [], _, _, _, _, _, h, _ => absurd rfl h
  | _ :: _, [], _, h, _, _, _, _ => h.elim
  | [v], u :: l, _, _, _, _, _, e => by
    have e : v = u := by simpa using e
    subst e
    exact ⟨l, rfl⟩
  | v :: v2 :: K, [u], h, k, hn, _, _, e => by
    have e : v = u := by simpa using e
    subst e
    have k : up v = -1 := k
    exact absurd (h.1.symm.trans k) (hn v2 (by simp))
  | v :: v2 :: K, u :: u2 :: l, h, k, hn, kn, _, e => by
    have e : v = u := by simpa using e
    subst e
    have e2 : v2 = u2 := h.1.symm.trans k.1
    obtain ⟨q, hq⟩ := Seg.prefix_path (K := v2 :: K) (p := u2 :: l) h.2 k.2 (fun x hx => hn x (List.mem_cons_of_mem _ hx)) (fun x hx => kn x (List.mem_cons_of_mem _ hx)) (by simp) (by simp [e2])
    exact ⟨q, by rw [hq]; rfl⟩


/-- The rows, and what stands over each top, are the forest. -/
structure Fiv (up over : Int → Int) (Ks : List (List Int)) : Prop where
  seg : ∀ K ∈ Ks, Seg up K
  top : ∀ K ∈ Ks, ∀ L z, K = L ++ [z] → up z = over z
  mid : ∀ K ∈ Ks, ∀ L y M, K = L ++ y :: M → M ≠ [] → over y = -1
def put (f : Int → Int) (z x : Int) : Int → Int := fun y => if y = z then x else f y
theorem put_same (f : Int → Int) (z x : Int) : put f z x z = x := if_pos rfl
theorem put_ne {f : Int → Int} {z x y : Int} (h : y ≠ z) : put f z x y = f y := if_neg h
theorem Fiv.perm {up over : Int → Int} {Ks Js : List (List Int)} (h : Fiv up over Ks) (hp : Ks.Perm Js) : Fiv up over Js :=
  ⟨fun K hK => h.seg K (hp.mem_iff.2 hK), fun K hK => h.top K (hp.mem_iff.2 hK), fun K hK => h.mid K (hp.mem_iff.2 hK)⟩
theorem flat_apart {K : List Int} {Ks : List (List Int)} (hn : (K :: Ks).flatten.Nodup) : ∀ J ∈ Ks, ∀ x ∈ J, x ∉ K := fun J hJ x hx hK => by
  rw [List.flatten_cons] at hn
  exact (List.nodup_append.1 hn).2.2 x hK x (List.mem_flatten.2 ⟨J, hJ, hx⟩) rfl
/-- What is below a node is cut off its row. -/
theorem Fiv.part {up over : Int → Int} {Ks : List (List Int)} {A B : List Int} {z v : Int} (h : Fiv up over ((A ++ [z] ++ v :: B) :: Ks)) (hn : ((A ++ [z] ++ v :: B) :: Ks).flatten.Nodup) : Fiv up (put over z v) ((A ++ [z]) :: (v :: B) :: Ks) := by
  have hs := h.seg _ List.mem_cons_self
  have hr : (A ++ [z] ++ v :: B).Nodup := by
    rw [List.flatten_cons] at hn
    exact (List.nodup_append.1 hn).1
  have hz : z ∉ v :: B := fun hz => (List.nodup_append.1 hr).2.2 z (by simp) z hz rfl
  have hzA : z ∉ A := fun hz => (List.nodup_append.1 (List.nodup_append.1 hr).1).2.2 z hz z (by simp) rfl
  have hK := flat_apart hn
  have hzK : ∀ K ∈ Ks, z ∉ K := fun K hK' hzK => hK K hK' z hzK (by simp)
  refine ⟨fun K hK => ?_, fun K hK L y e => ?_, fun K hK L y M e hM => ?_⟩
  · rcases List.mem_cons.1 hK with rfl | hK
    · exact hs.ahead
    · rcases List.mem_cons.1 hK with rfl | hK
      · exact hs.suffix
      · exact h.seg K (List.mem_cons_of_mem _ hK)
  · rcases List.mem_cons.1 hK with rfl | hK
    · have e2 := List.append_inj_right' e rfl
      injection e2 with e2 _
      subst e2
      rw [put_same]
      have : Seg up (A ++ z :: v :: B) := by simpa using hs
      exact this.mid
    · rcases List.mem_cons.1 hK with rfl | hK
      · have hy : y ∈ v :: B := by rw [e]; simp
        rw [put_ne (fun ez => hz (by rw [← ez]; exact hy))]
        exact h.top _ List.mem_cons_self (A ++ [z] ++ L) y (by rw [e]; simp)
      · have hy : y ∈ K := by rw [e]; simp
        rw [put_ne (fun ez => hzK K hK (by rw [← ez]; exact hy))]
        exact h.top K (List.mem_cons_of_mem _ hK) L y e
  · rcases List.mem_cons.1 hK with rfl | hK
    · have hy : y ≠ z := fun ey => by
        subst ey
        obtain ⟨M', w, rfl⟩ : ∃ M' w, M = M' ++ [w] := ⟨M.dropLast, M.getLast hM, (List.dropLast_concat_getLast hM).symm⟩
        have e3 : A ++ [y] = (L ++ y :: M') ++ [w] := by rw [e]; simp
        have e4 := List.append_inj_left' e3 rfl
        exact hzA (by rw [e4]; simp)
      rw [put_ne hy]
      exact h.mid _ List.mem_cons_self L y (M ++ v :: B) (by rw [e]; simp) (by simp [hM])
    · rcases List.mem_cons.1 hK with rfl | hK
      · have hy : y ∈ v :: B := by rw [e]; simp
        rw [put_ne (fun ez => hz (by rw [← ez]; exact hy))]
        exact h.mid _ List.mem_cons_self (A ++ [z] ++ L) y M (by rw [e]; simp) hM
      · have hy : y ∈ K := by rw [e]; simp
        rw [put_ne (fun ez => hzK K hK (by rw [← ez]; exact hy))]
        exact h.mid K (List.mem_cons_of_mem _ hK) L y M e hM
/-- Two rows, one above the other, become one. -/
theorem Fiv.join {up over : Int → Int} {Ks : List (List Int)} {A B : List Int} {z w : Int} (h : Fiv up over ((A ++ [z]) :: (w :: B) :: Ks)) (hn : ((A ++ [z]) :: (w :: B) :: Ks).flatten.Nodup) (hw : over z = w) : Fiv up (put over z (-1)) ((A ++ [z] ++ w :: B) :: Ks) := by
  have hr : (A ++ [z] ++ w :: B).Nodup := by
    rw [List.flatten_cons, List.flatten_cons, ← List.append_assoc] at hn
    exact (List.nodup_append.1 hn).1
  have hz : z ∉ w :: B := fun hz => (List.nodup_append.1 hr).2.2 z (by simp) z hz rfl
  have hzA : z ∉ A := fun hz => (List.nodup_append.1 (List.nodup_append.1 hr).1).2.2 z hz z (by simp) rfl
  have hK := flat_apart hn
  have hzK : ∀ K ∈ Ks, z ∉ K := fun K hK' hzK => hK K (List.mem_cons_of_mem _ hK') z hzK (by simp)
  have hup : up z = w := (h.top _ List.mem_cons_self A z rfl).trans hw
  refine ⟨fun K hK => ?_, fun K hK L y e => ?_, fun K hK L y M e hM => ?_⟩
  · rcases List.mem_cons.1 hK with rfl | hK
    · exact Seg.join (h.seg _ List.mem_cons_self) hup (h.seg _ (List.mem_cons_of_mem _ List.mem_cons_self))
    · exact h.seg K (List.mem_cons_of_mem _ (List.mem_cons_of_mem _ hK))
  · rcases List.mem_cons.1 hK with rfl | hK
    · obtain ⟨C, u, hC⟩ : ∃ C u, w :: B = C ++ [u] := ⟨(w :: B).dropLast, (w :: B).getLast (by simp), (List.dropLast_concat_getLast (by simp)).symm⟩
      rw [hC, ← List.append_assoc] at e
      have e2 := List.append_inj_right' e rfl
      injection e2 with e2 _
      subst e2
      have hy : u ∈ w :: B := by rw [hC]; simp
      rw [put_ne (fun ez => hz (by rw [← ez]; exact hy))]
      exact h.top _ (List.mem_cons_of_mem _ List.mem_cons_self) C u hC
    · have hy : y ∈ K := by rw [e]; simp
      rw [put_ne (fun ez => hzK K hK (by rw [← ez]; exact hy))]
      exact h.top K (List.mem_cons_of_mem _ (List.mem_cons_of_mem _ hK)) L y e
  · rcases List.mem_cons.1 hK with rfl | hK
    · by_cases c : y = z
      · rw [c, put_same]
      · rw [put_ne c]
        have e2 : A ++ z :: (w :: B) = L ++ y :: M := by rw [← e]; simp
        rcases List.append_eq_append_iff.1 e2 with ⟨a', e3, e4⟩ | ⟨c', e3, e4⟩
        · cases a' with
          | nil => injection e4 with e5 _; exact absurd e5.symm c
          | cons q a' =>
            injection e4 with e5 e6
            exact h.mid _ (List.mem_cons_of_mem _ List.mem_cons_self) a' y M e6 hM
        · cases c' with
          | nil => injection e4 with e5 _; exact absurd e5 c
          | cons q c' =>
            injection e4 with e5 e6
            subst e5
            exact h.mid _ List.mem_cons_self L y (c' ++ [z]) (by rw [e3]; simp) (by simp)
    · have hy : y ∈ K := by rw [e]; simp
      rw [put_ne (fun ez => hzK K hK (by rw [← ez]; exact hy))]
      exact h.mid K (List.mem_cons_of_mem _ (List.mem_cons_of_mem _ hK)) L y M e hM

theorem IsPath.congr {up up' : Int → Int} : ∀ {p : List Int}, IsPath up p → (∀ x ∈ p, up' x = up x) → IsPath up' p
  | [], h, _ => h
  | [v], h, k => (k v List.mem_cons_self).trans h
  | v :: u :: l, h, k => ⟨(k v List.mem_cons_self).trans h.1, IsPath.congr h.2 (fun x hx => k x (List.mem_cons_of_mem _ hx))⟩
theorem Seg.congr {up up' : Int → Int} : ∀ {p : List Int}, Seg up p → (∀ x ∈ p, up' x = up x) → Seg up' p
  | [], _, _ => trivial
  | [_], _, _ => trivial
  | v :: u :: l, h, k => ⟨(k v List.mem_cons_self).trans h.1, Seg.congr h.2 (fun x hx => k x (List.mem_cons_of_mem _ hx))⟩
theorem IsPath.glue {up : Int → Int} : ∀ {a q : List Int} {z w : Int}, Seg up (a ++ [z]) → up z = w → IsPath up (w :: q) → IsPath up (a ++ z :: w :: q)
  | [], q, z, w, _, h, k => ⟨h, k⟩
  | [x], q, z, w, h1, h2, k => ⟨h1.1, h2, k⟩
  | x :: y :: a, q, z, w, h1, h2, k => ⟨h1.1, IsPath.glue (a := y :: a) h1.2 h2 k⟩
/-- The way up of a node. -/
structure Way (N : Int) (up : Int → Int) (v : Int) (p : List Int) : Prop where
  path : IsPath up p
  head : p.head? = some v
  rng : ∀ x ∈ p, 0 ≤ x ∧ x < N
theorem Way.no1 {N : Int} {up : Int → Int} {v : Int} {p : List Int} (h : Way N up v p) : ∀ x ∈ p, x ≠ -1 := fun x hx => by
  have := h.rng x hx
  omega
theorem Way.uniq {N : Int} {up : Int → Int} {v : Int} {p q : List Int} (h : Way N up v p) (k : Way N up v q) : p = q := IsPath.uniq h.path k.path h.no1 k.no1 (h.head.trans k.head.symm)
theorem Way.nodup {N : Int} {up : Int → Int} {v : Int} {p : List Int} (h : Way N up v p) : p.Nodup := h.path.nodup h.no1
theorem Way.cons {N : Int} {up : Int → Int} {v : Int} {p : List Int} (h : Way N up v p) : ∃ l, p = v :: l := by
  cases p with
  | nil => exact absurd rfl h.path.ne
  | cons a l => have := h.head; simp at this; exact ⟨l, by rw [this]⟩
theorem Way.sub {N : Int} {up : Int → Int} {v u : Int} {a b : List Int} (h : Way N up v (a ++ u :: b)) : Way N up u (u :: b) :=
  ⟨h.path.suffix (by simp), rfl, fun x hx => h.rng x (List.mem_append_right _ hx)⟩
theorem Way.up {N : Int} {up : Int → Int} {v u : Int} {l : List Int} (h : Way N up v (v :: u :: l)) : up v = u ∧ Way N up u (u :: l) := ⟨h.path.1, h.path.2, rfl, fun x hx => h.rng x (List.mem_cons_of_mem _ hx)⟩
theorem Way.root {N : Int} {up : Int → Int} {v : Int} (h : Way N up v [v]) : up v = -1 := h.path
/-- Each node has a way up. -/
def Ok (N : Int) (up : Int → Int) : Prop := ∀ v, 0 ≤ v → v < N → ∃ p, Way N up v p
theorem Way.up_cases {N : Int} {up : Int → Int} {v : Int} {p : List Int} (h : Way N up v p) : (up v = -1 ∧ p = [v]) ∨ ∃ u l, up v = u ∧ 0 ≤ u ∧ u < N ∧ p = v :: u :: l ∧ Way N up u (u :: l) := by
  obtain ⟨l, rfl⟩ := h.cons
  cases l with
  | nil => exact .inl ⟨h.path, rfl⟩
  | cons u l => exact .inr ⟨u, l, h.path.1, (h.rng u (by simp)).1, (h.rng u (by simp)).2, rfl, h.up.2⟩
theorem Way.mk_root {N : Int} {up : Int → Int} {v : Int} (h0 : 0 ≤ v) (h1 : v < N) (h : up v = -1) : Way N up v [v] := ⟨h, rfl, fun x hx => by rw [List.mem_singleton.1 hx]; exact ⟨h0, h1⟩⟩
theorem Way.mk_up {N : Int} {up : Int → Int} {v u : Int} {p : List Int} (h0 : 0 ≤ v) (h1 : v < N) (h : up v = u) (k : Way N up u p) : Way N up v (v :: p) := by
  obtain ⟨l, rfl⟩ := k.cons
  exact ⟨⟨h, k.path⟩, rfl, fun x hx => by
    rcases List.mem_cons.1 hx with rfl | hx
    · exact ⟨h0, h1⟩
    · exact k.rng x hx⟩
/-- A root is hung below a node that is not in its tree. -/
theorem Way.link {N : Int} {up : Int → Int} {v w x : Int} {p q : List Int} (hr : up v = -1) (hq : Way N up w q) (hvq : v ∉ q) (hp : Way N up x p) : Way N (put up v w) x (if v ∈ p then p ++ q else p) := by
  have cq : IsPath (put up v w) q := hq.path.congr (fun y hy => put_ne (fun e => hvq (by rw [← e]; exact hy)))
  split
  · rename_i hv
    obtain ⟨a, b, e⟩ := List.append_of_mem hv
    subst e
    have hb : b = [] := by
      have h1 := hp.sub
      have h2 := h1.uniq (Way.mk_root (hp.rng v (by simp)).1 (hp.rng v (by simp)).2 hr)
      simpa using h2
    subst hb
    obtain ⟨l, rfl⟩ := hq.cons
    have hn := hp.nodup
    have hva : v ∉ a := fun h => (List.nodup_append.1 hn).2.2 v h v (by simp) rfl
    refine ⟨?_, ?_, fun y hy => ?_⟩
    · rw [List.append_assoc]
      refine IsPath.glue ?_ (put_same _ _ _) cq
      have hs : Seg up (a ++ [v]) := hp.path.seg
      cases a with
      | nil => trivial
      | cons a0 a' =>
        have : ∀ {l : List Int}, Seg up (l ++ [v]) → v ∉ l → Seg (put up v w) (l ++ [v]) := by
          intro l
          induction l with
          | nil => intro _ _; trivial
          | cons y l ih =>
            intro h1 h2
            cases l with
            | nil => exact ⟨(put_ne (fun e => h2 (by simp [e]))).trans h1.1, trivial⟩
            | cons z l => exact ⟨(put_ne (fun e => h2 (by simp [e]))).trans h1.1, ih h1.2 (fun h => h2 (List.mem_cons_of_mem _ h))⟩
        exact this hs hva
    · have h2 := hp.head
      cases a with
      | nil => exact h2
      | cons a0 a' => exact h2
    · rcases List.mem_append.1 hy with hy | hy
      · exact hp.rng y hy
      · exact hq.rng y hy
  · rename_i hv
    exact ⟨hp.path.congr (fun y hy => put_ne (fun e => hv (by rw [← e]; exact hy))), hp.head, hp.rng⟩
/-- A node is cut off. -/
theorem seg_put {up : Int → Int} {v w : Int} : ∀ {l : List Int}, Seg up (l ++ [v]) → v ∉ l → Seg (put up v w) (l ++ [v])
  | [], _, _ => trivial
  | [y], h1, h2 => ⟨(put_ne (fun e => h2 (by simp [e]))).trans h1.1, trivial⟩
  | y :: z :: l, h1, h2 => ⟨(put_ne (fun e => h2 (by simp [e]))).trans h1.1, seg_put (l := z :: l) h1.2 (fun h => h2 (List.mem_cons_of_mem _ h))⟩
theorem Way.cut {N : Int} {up : Int → Int} {v x : Int} {p : List Int} (hp : Way N up x p) : (v ∉ p ∧ Way N (put up v (-1)) x p) ∨ ∃ a b, p = a ++ v :: b ∧ Way N (put up v (-1)) x (a ++ [v]) := by
  by_cases hv : v ∈ p
  · obtain ⟨a, b, e⟩ := List.append_of_mem hv
    subst e
    have hva : v ∉ a := fun h => (List.nodup_append.1 hp.nodup).2.2 v h v (by simp) rfl
    refine .inr ⟨a, b, rfl, IsPath.of_seg (seg_put ?_ hva) (put_same _ _ _), ?_, fun y hy => hp.rng y ?_⟩
    · have h1 : Seg up (a ++ [v] ++ b) := by have := hp.path.seg; simpa using this
      exact h1.ahead
    · have h2 := hp.head
      cases a with
      | nil => simpa using h2
      | cons a0 a' => exact h2
    · rcases List.mem_append.1 hy with hy | hy
      · exact List.mem_append_left _ hy
      · rw [List.mem_singleton.1 hy]; simp
  · exact .inl ⟨hv, hp.path.congr (fun y hy => put_ne (fun e => hv (by rw [← e]; exact hy))), hp.head, hp.rng⟩
theorem Ok.link {N : Int} {up : Int → Int} {v w : Int} {q : List Int} (h : Ok N up) (hr : up v = -1) (hq : Way N up w q) (hvq : v ∉ q) : Ok N (put up v w) := fun x h0 h1 => by
  obtain ⟨p, hp⟩ := h x h0 h1
  exact ⟨_, Way.link hr hq hvq hp⟩
theorem Ok.cut {N : Int} {up : Int → Int} {v : Int} (h : Ok N up) : Ok N (put up v (-1)) := fun x h0 h1 => by
  obtain ⟨p, hp⟩ := h x h0 h1
  rcases hp.cut (v := v) with ⟨_, k⟩ | ⟨a, b, _, k⟩
  · exact ⟨_, k⟩
  · exact ⟨_, k⟩
/-- Who stands ahead of whom in a row. -/
def prevOf : List Int → Int → Int
  | a :: b :: l, y => if y = b then a else prevOf (b :: l) y
  | _, _ => -1
/-- A way up, turned. -/
def turnUp (up : Int → Int) (P : List Int) : Int → Int := fun y => if y ∈ P then prevOf P y else up y
theorem prevOf_at : ∀ {a b : List Int} {x y : Int}, (a ++ x :: y :: b).Nodup → prevOf (a ++ x :: y :: b) y = x
  | [], b, x, y, _ => if_pos rfl
  | [c], b, x, y, hn => by
    have : y ≠ x := fun e => by subst e; simp at hn
    show (if y = x then c else prevOf (x :: y :: b) y) = x
    rw [if_neg this]
    exact if_pos rfl
  | c :: d :: a, b, x, y, hn => by
    have hn2 := (List.nodup_cons.1 hn).2
    have : y ≠ d := fun e => by subst e; simp at hn2
    show (if y = d then c else prevOf (d :: (a ++ x :: y :: b)) y) = x
    rw [if_neg this]
    exact prevOf_at (a := d :: a) hn2
theorem prevOf_head : ∀ {v : Int} {l : List Int}, (v :: l).Nodup → prevOf (v :: l) v = -1
  | v, [], _ => rfl
  | v, b :: l, hn => by
    have h1 : v ≠ b := fun e => by subst e; simp at hn
    show (if v = b then v else prevOf (b :: l) v) = -1
    rw [if_neg h1]
    have h2 : v ∉ b :: l := (List.nodup_cons.1 hn).1
    have : ∀ (m : List Int), v ∉ m → prevOf m v = -1 := by
      intro m
      induction m with
      | nil => intro _; rfl
      | cons c m ih =>
        intro hm
        cases m with
        | nil => rfl
        | cons d m =>
          show (if v = d then c else prevOf (d :: m) v) = -1
          rw [if_neg (fun e => hm (by simp [e]))]
          exact ih (fun h => hm (List.mem_cons_of_mem _ h))
    exact this _ h2
theorem turnUp_at {up : Int → Int} {a b : List Int} {x y : Int} (hn : (a ++ x :: y :: b).Nodup) : turnUp up (a ++ x :: y :: b) y = x := by
  unfold turnUp
  rw [if_pos (by simp), prevOf_at hn]
theorem turnUp_head {up : Int → Int} {v : Int} {l : List Int} (hn : (v :: l).Nodup) : turnUp up (v :: l) v = -1 := by
  unfold turnUp
  rw [if_pos (by simp), prevOf_head hn]
theorem turnUp_out {up : Int → Int} {P : List Int} {y : Int} (h : y ∉ P) : turnUp up P y = up y := if_neg h
/-- The turned way: from any of its nodes down to where it began. -/
theorem turn_path {up : Int → Int} : ∀ {c d : List Int} {u : Int}, (c ++ u :: d).Nodup → IsPath (turnUp up (c ++ u :: d)) (u :: c.reverse)
  | [], d, u, hn => turnUp_head hn
  | c0 :: c, d, u, hn => by
    obtain ⟨e, z, he⟩ : ∃ e z, c0 :: c = e ++ [z] := ⟨(c0 :: c).dropLast, (c0 :: c).getLast (by simp), (List.dropLast_concat_getLast (by simp)).symm⟩
    rw [he] at hn ⊢
    have e1 : e ++ [z] ++ u :: d = e ++ z :: u :: d := by simp
    rw [e1] at hn ⊢
    have hlen : e.length < (c0 :: c).length := by rw [he]; simp
    have ih := turn_path (up := up) (c := e) (d := u :: d) (u := z) hn
    rw [List.reverse_append]
    exact ⟨turnUp_at hn, ih⟩
termination_by c => c.length
theorem first_meet {P : List Int} : ∀ {p : List Int}, (∃ x ∈ p, x ∈ P) → ∃ a u b, p = a ++ u :: b ∧ u ∈ P ∧ ∀ x ∈ a, x ∉ P
  | [], h => by obtain ⟨x, hx, _⟩ := h; cases hx
  | y :: p, h => by
    by_cases c : y ∈ P
    · exact ⟨[], y, p, rfl, c, fun x hx => by cases hx⟩
    · obtain ⟨a, u, b, e, h1, h2⟩ := first_meet (p := p) (by
        obtain ⟨x, hx, hxP⟩ := h
        rcases List.mem_cons.1 hx with rfl | hx
        · exact absurd hxP c
        · exact ⟨x, hx, hxP⟩)
      refine ⟨y :: a, u, b, by rw [e]; rfl, h1, fun x hx => ?_⟩
      rcases List.mem_cons.1 hx with rfl | hx
      · exact c
      · exact h2 x hx
/-- A tree is rooted anew at v, whose way up was P: each node's new way. -/
theorem Way.turn {N : Int} {up : Int → Int} {v x : Int} {P p : List Int} (hP : Way N up v P) (hp : Way N up x p) :
    ((∀ y ∈ p, y ∉ P) ∧ Way N (turnUp up P) x p) ∨ ∃ a u b c d, p = a ++ u :: b ∧ P = c ++ u :: d ∧ (∀ y ∈ a, y ∉ P) ∧ Way N (turnUp up P) x (a ++ u :: c.reverse) := by
  by_cases h : ∃ y ∈ p, y ∈ P
  · obtain ⟨a, u, b, rfl, hu, ha⟩ := first_meet h
    obtain ⟨c, d, rfl⟩ := List.append_of_mem hu
    refine .inr ⟨a, u, b, c, d, rfl, rfl, ha, ?_, ?_, fun y hy => ?_⟩
    · have k := turn_path (up := up) hP.nodup
      have hs : Seg up (a ++ [u]) := by
        have h1 : Seg up (a ++ [u] ++ b) := by have := hp.path.seg; simpa using this
        exact h1.ahead
      have : ∀ {l : List Int}, Seg up (l ++ [u]) → (∀ y ∈ l, y ∉ c ++ u :: d) → IsPath (turnUp up (c ++ u :: d)) (l ++ u :: c.reverse) := by
        intro l
        induction l with
        | nil => intro _ _; exact k
        | cons y l ih =>
          intro h1 h2
          cases l with
          | nil => exact ⟨(turnUp_out (h2 y (by simp))).trans h1.1, k⟩
          | cons z l => exact ⟨(turnUp_out (h2 y (by simp))).trans h1.1, ih h1.2 (fun q hq => h2 q (List.mem_cons_of_mem _ hq))⟩
      exact this hs ha
    · have h2 := hp.head
      cases a with
      | nil => simpa using h2
      | cons a0 a' => exact h2
    · rcases List.mem_append.1 hy with hy | hy
      · exact hp.rng y (List.mem_append_left _ hy)
      · rcases List.mem_cons.1 hy with rfl | hy
        · exact hp.rng y (by simp)
        · exact hP.rng y (List.mem_append_left _ (List.mem_reverse.1 hy))
  · have h2 : ∀ y ∈ p, y ∉ P := fun y hy hyP => h ⟨y, hy, hyP⟩
    exact .inl ⟨h2, hp.path.congr (fun y hy => turnUp_out (h2 y hy)), hp.head, hp.rng⟩
theorem Ok.turn {N : Int} {up : Int → Int} {v : Int} {P : List Int} (h : Ok N up) (hP : Way N up v P) : Ok N (turnUp up P) := fun x h0 h1 => by
  obtain ⟨p, hp⟩ := h x h0 h1
  rcases hP.turn hp with ⟨_, k⟩ | ⟨a, u, b, c, d, _, _, _, k⟩
  · exact ⟨_, k⟩
  · exact ⟨_, k⟩

theorem Fiv.cut {up over : Int → Int} {Ks : List (List Int)} {v u : Int} {l : List Int} (h : Fiv up over ((v :: u :: l) :: Ks)) (hn : ((v :: u :: l) :: Ks).flatten.Nodup) : Fiv (put up v (-1)) over ([v] :: (u :: l) :: Ks) := by
  have hr : (v :: u :: l).Nodup := by rw [List.flatten_cons] at hn; exact (List.nodup_append.1 hn).1
  have hv : v ∉ u :: l := (List.nodup_cons.1 hr).1
  have hK := flat_apart hn
  have hvK : ∀ K ∈ Ks, v ∉ K := fun K hK' hvK => hK K hK' v hvK List.mem_cons_self
  have ho : over v = -1 := h.mid _ List.mem_cons_self [] v (u :: l) rfl (by simp)
  refine ⟨fun K hK => ?_, fun K hK L z e => ?_, fun K hK L y M e hM => ?_⟩
  · rcases List.mem_cons.1 hK with rfl | hK
    · trivial
    · rcases List.mem_cons.1 hK with rfl | hK
      · exact (h.seg _ List.mem_cons_self).tail.congr (fun x hx => put_ne (fun e => hv (by rw [← e]; exact hx)))
      · exact (h.seg K (List.mem_cons_of_mem _ hK)).congr (fun x hx => put_ne (fun e => hvK K hK (by rw [← e]; exact hx)))
  · rcases List.mem_cons.1 hK with rfl | hK
    · have e2 : L = [] ∧ z = v := by
        cases L with
        | nil => injection e with e _; exact ⟨rfl, e.symm⟩
        | cons a L => simp at e
      rw [e2.2, put_same, ho]
    · rcases List.mem_cons.1 hK with rfl | hK
      · have hz : z ∈ u :: l := by rw [e]; simp
        rw [put_ne (fun ez => hv (by rw [← ez]; exact hz))]
        exact h.top _ List.mem_cons_self (v :: L) z (by rw [e]; rfl)
      · have hz : z ∈ K := by rw [e]; simp
        rw [put_ne (fun ez => hvK K hK (by rw [← ez]; exact hz))]
        exact h.top K (List.mem_cons_of_mem _ hK) L z e
  · rcases List.mem_cons.1 hK with rfl | hK
    · cases L with
      | nil => injection e with _ e; exact absurd e.symm hM
      | cons a L => simp at e
    · rcases List.mem_cons.1 hK with rfl | hK
      · exact h.mid _ List.mem_cons_self (v :: L) y M (by rw [e]; rfl) hM
      · exact h.mid K (List.mem_cons_of_mem _ hK) L y M e hM
theorem Fiv.link {up over : Int → Int} {Ks : List (List Int)} {v w : Int} (h : Fiv up over ([v] :: Ks)) (hn : ([v] :: Ks).flatten.Nodup) : Fiv (put up v w) (put over v w) ([v] :: Ks) := by
  have hK := flat_apart hn
  have hvK : ∀ K ∈ Ks, v ∉ K := fun K hK' hvK => hK K hK' v hvK List.mem_cons_self
  refine ⟨fun K hK => ?_, fun K hK L z e => ?_, fun K hK L y M e hM => ?_⟩
  · rcases List.mem_cons.1 hK with rfl | hK
    · trivial
    · exact (h.seg K (List.mem_cons_of_mem _ hK)).congr (fun x hx => put_ne (fun e => hvK K hK (by rw [← e]; exact hx)))
  · rcases List.mem_cons.1 hK with rfl | hK
    · have e2 : z = v := by
        cases L with
        | nil => injection e with e _; exact e.symm
        | cons a L => simp at e
      rw [e2, put_same, put_same]
    · have hz : z ∈ K := by rw [e]; simp
      have hzv : z ≠ v := fun ez => hvK K hK (by rw [← ez]; exact hz)
      rw [put_ne hzv, put_ne hzv]
      exact h.top K (List.mem_cons_of_mem _ hK) L z e
  · rcases List.mem_cons.1 hK with rfl | hK
    · cases L with
      | nil => injection e with _ e; exact absurd e.symm hM
      | cons a L => simp at e
    · have hy : y ∈ K := by rw [e]; simp
      rw [put_ne (fun ez => hvK K hK (by rw [← ez]; exact hy))]
      exact h.mid K (List.mem_cons_of_mem _ hK) L y M e hM
/-- Nothing stands over the nodes of a whole way up. -/
theorem Fiv.bare {up over : Int → Int} {Ks : List (List Int)} {P : List Int} (h : Fiv up over (P :: Ks)) (hp : IsPath up P) : ∀ y ∈ P, over y = -1 := fun y hy => by
  obtain ⟨a, b, e⟩ := List.append_of_mem hy
  cases b with
  | nil =>
    have h1 := h.top P List.mem_cons_self a y e
    rw [e] at hp
    exact h1.symm.trans (IsPath.last hp)
  | cons c b => exact h.mid P List.mem_cons_self a y (c :: b) e (by simp)
theorem Fiv.turn {up over : Int → Int} {Ks : List (List Int)} {P : List Int} (h : Fiv up over (P :: Ks)) (hn : (P :: Ks).flatten.Nodup) (hp : IsPath up P) : Fiv (turnUp up P) over (P.reverse :: Ks) := by
  have hr : P.Nodup := by rw [List.flatten_cons] at hn; exact (List.nodup_append.1 hn).1
  have hK := flat_apart hn
  have hb := h.bare hp
  obtain ⟨c, r, e⟩ : ∃ c r, P = c ++ [r] := ⟨P.dropLast, P.getLast hp.ne, (List.dropLast_concat_getLast hp.ne).symm⟩
  have ht : IsPath (turnUp up P) P.reverse := by
    rw [e] at hr ⊢
    rw [List.reverse_append]
    exact turn_path hr
  refine ⟨fun K hK' => ?_, fun K hK' L z ez => ?_, fun K hK' L y M ey hM => ?_⟩
  · rcases List.mem_cons.1 hK' with rfl | hK'
    · exact ht.seg
    · exact (h.seg K (List.mem_cons_of_mem _ hK')).congr (fun x hx => turnUp_out (hK K hK' x hx))
  · rcases List.mem_cons.1 hK' with rfl | hK'
    · have hz : z ∈ P := by
        have : z ∈ P.reverse := by rw [ez]; simp
        exact List.mem_reverse.1 this
      rw [hb z hz]
      rw [ez] at ht
      exact ht.last
    · have hz : z ∈ K := by rw [ez]; simp
      rw [turnUp_out (hK K hK' z hz)]
      exact h.top K (List.mem_cons_of_mem _ hK') L z ez
  · rcases List.mem_cons.1 hK' with rfl | hK'
    · have hy : y ∈ P := by
        have : y ∈ P.reverse := by rw [ey]; simp
        exact List.mem_reverse.1 this
      exact hb y hy
    · exact h.mid K (List.mem_cons_of_mem _ hK') L y M ey hM

end Go.Proofs.YtcnmbgijehnchaaW.Splay
/- A forest of trees in the world: its rows, and what stands over each row's top. -/
namespace Go.Proofs.YtcnmbgijehnchaaW.Splay
open Go.RowKit Go.Shelf Go.Proofs.YtcnmbgijehnchaaW.PrintWords Go.Proofs.YtcnmbgijehnchaaW.PrintLast Go.Proofs.YtcnmbgijehnchaaW.PrintMore Go.Proofs.YtcnmbgijehnchaaW.Mine
attribute [local go_sem] max2_int min2_int max_two min_two max_three min_three max_four min_four Oper.semAt_some
/-- Where it lies. -/
structure Ad where
  gt : Nat
  gs : Nat
  gn : Nat
  go : Nat
  N : Nat
  cap : Nat
  co : Nat
/-- What stands over each node, in cells. -/
def Ov (w : World) (go N : Nat) (over : Int → Int) : Prop := ∃ cs, w.heap[go]? = some (.cells cs 3 (0, 0)) ∧ ∀ j : Nat, j < N → cs[j]? = some (.int .i64 (over (j : Int)))
structure Tf (D : Ad) (w0 w : World) (Ws : List (List (Int × Int))) (over : Int → Int) : Prop where
  fm : Fm w0 w D.gs D.gn D.N D.cap Ws
  tb : w.heap[D.gt]? = some (.cells #[.pointer (some ⟨D.gs, 0, none⟩), .slice (some ⟨D.go, 0, none⟩) D.N D.co, .int .i64 (D.N : Int)] 71 (0, 0))
  ov : Ov w D.go D.N over
  ne : D.gt ≠ D.gs ∧ D.gt ≠ D.gn ∧ D.go ≠ D.gs ∧ D.go ≠ D.gn ∧ D.gt ≠ D.go ∧ w0.heap.size ≤ D.gt ∧ w0.heap.size ≤ D.go ∧ D.N ≤ D.co
/-- All blocks but its own lie as they lay. -/
structure Kt (D : Ad) (w w1 : World) : Prop where
  size : w.heap.size ≤ w1.heap.size
  heap : ∀ k, k < w.heap.size → k ≠ D.gs → k ≠ D.gn → k ≠ D.go → w1.heap[k]? = w.heap[k]?
section
variable {D : Ad} {w0 w w1 w2 : World} {Ws Vs : List (List (Int × Int))} {over : Int → Int} {x y v u : Int}
theorem Kt.refl (w : World) : Kt D w w := ⟨Nat.le_refl _, fun _ _ _ _ _ => rfl⟩
theorem Kt.trans (h : Kt D w w1) (k : Kt D w1 w2) : Kt D w w2 := ⟨Nat.le_trans h.size k.size, fun j hj h1 h2 h3 => (k.heap j (Nat.lt_of_lt_of_le hj h.size) h1 h2 h3).trans (h.heap j hj h1 h2 h3)⟩
theorem Kt.ke (h : Ke D.gs D.gn w w1) : Kt D w w1 := ⟨h.size, fun k hk h1 h2 _ => h.heap k hk h1 h2⟩
theorem Kt.below (h : Below w.heap.size w w1) : Kt D w w1 := ⟨h.size, fun k hk _ _ _ => h.block k hk⟩
theorem Tf.lt (h : Tf D w0 w Ws over) : D.gt < w.heap.size ∧ D.go < w.heap.size := by
  obtain ⟨cs, hc, _⟩ := h.ov
  exact ⟨(Array.getElem?_eq_some_iff.1 h.tb).1, (Array.getElem?_eq_some_iff.1 hc).1⟩
/-- Behind a call on the rows. -/
theorem Tf.next (h : Tf D w0 w Ws over) (hF : Fm w0 w1 D.gs D.gn D.N D.cap Vs) (hK : Ke D.gs D.gn w w1) : Tf D w0 w1 Vs over := by
  obtain ⟨cs, hc, hn⟩ := h.ov
  obtain ⟨a1, a2, a3, a4, a5, a6⟩ := h.ne
  exact ⟨hF, (hK.heap _ h.lt.1 a1 a2).trans h.tb, ⟨cs, (hK.heap _ h.lt.2 a3 a4).trans hc, hn⟩, h.ne⟩
theorem Tf.below (h : Tf D w0 w Ws over) (hb : Below w.heap.size w w1) : Tf D w0 w1 Ws over := h.next (h.fm.below hb) (Ke.below hb)
theorem Tf.perm (h : Tf D w0 w Ws over) (hp : Ws.Perm Vs) : Tf D w0 w Vs over := ⟨h.fm.perm hp, h.tb, h.ov, h.ne⟩
theorem Tf.c0 (h : Tf D w0 w Ws over) : w.cell? ⟨D.gt, 0, none⟩ = some (.pointer (some ⟨D.gs, 0, none⟩)) := (blk_cell h.tb 0).trans rfl
theorem Tf.c1 (h : Tf D w0 w Ws over) : w.cell? ⟨D.gt, 1, none⟩ = some (.slice (some ⟨D.go, 0, none⟩) D.N D.co) := (blk_cell h.tb 1).trans rfl
theorem Tf.c2 (h : Tf D w0 w Ws over) : w.cell? ⟨D.gt, 2, none⟩ = some (.int .i64 (D.N : Int)) := (blk_cell h.tb 2).trans rfl
theorem Tf.at_ (h : Tf D w0 w Ws over) {j : Nat} (hj : j < D.N) : w.cell? ⟨D.go, j, none⟩ = some (.int .i64 (over (j : Int))) ∧ w.frozen? ⟨D.go, j, none⟩ = false := by
  obtain ⟨cs, hc, hn⟩ := h.ov
  exact ⟨(blk_cell hc j).trans (hn j hj), blk_frozen hc j⟩
theorem Tf.set (h : Tf D w0 w Ws over) {j : Nat} (hj : j < D.N) (z : Int) : Tf D w0 (w.setCell ⟨D.go, j, none⟩ (.int .i64 z)) Ws (put over (j : Int) z) ∧ Kt D w (w.setCell ⟨D.go, j, none⟩ (.int .i64 z)) := by
  obtain ⟨cs, hc, hn⟩ := h.ov
  obtain ⟨a1, a2, a3, a4, a5, a6, a7, a8⟩ := h.ne
  have hg : w.grownBy (w.setCell ⟨D.go, j, none⟩ (.int .i64 z)) (some D.go) := ⟨rfl, rfl, rfl, (KeepsWalks.setCell w _ _).size, fun k _ hk => Below.heap_setCell _ _ _ k (fun e => hk (by rw [e]))⟩
  refine ⟨⟨h.fm.grown hg (fun r e => by cases e; exact ⟨a7, a3, a4⟩), ?_, ⟨_, blk_set hc _ _, fun i hi => ?_⟩, h.ne⟩, ⟨hg.size, fun k hk _ _ h3 => hg.block k hk (fun e => h3 (by cases e; rfl))⟩⟩
  · rw [hg.block _ h.lt.1 (fun e => a5 (Option.some.inj e))]
    exact h.tb
  · by_cases e : i = j
    · subst e
      rw [put_same]
      exact set_at (hn i hi)
    · rw [put_ne (by omega), set_ne (fun e2 => e e2.symm)]
      exact hn i hi
theorem Tf.small (h : Tf D w0 w Ws over) : D.N ≤ 3000 := h.fm.small
end
set_option maxHeartbeats 8000000 in
set_option maxRecDepth 100000 in
theorem tthere_calls {D : Ad} {w0 w : World} {Ws : List (List (Int × Int))} {over : Int → Int} (h : Tf D w0 w Ws over) (x : Int) :
    Calls Try.prog 50 #[.pointer (some ⟨D.gt, 0, none⟩), .int .i64 x] w fun e w' => e = .returned (.bool (decide (0 ≤ x ∧ x < (D.N : Int)))) ∧ w' = w := by
  have hx2 := h.c2
  clear h
  go_enter Try.func50, Try.ntmps50
  by_cases c : 0 ≤ x
  · by_cases c2 : x < (D.N : Int)
    · have e : decide (0 ≤ x ∧ x < (D.N : Int)) = true := by simp [c, c2]
      rw [e]
      go_wp2
      go_ret
      exact ⟨rfl, rfl⟩
    · have e : decide (0 ≤ x ∧ x < (D.N : Int)) = false := by simp [c2]
      have c3 : (D.N : Int) ≤ x := by omega
      rw [e]
      go_wp2
      go_ret
      exact ⟨rfl, rfl⟩
  · have e : decide (0 ≤ x ∧ x < (D.N : Int)) = false := by simp [c]
    have c3 : x < 0 := by omega
    rw [e]
    go_wp2
    go_ret
    exact ⟨rfl, rfl⟩
set_option maxHeartbeats 8000000 in
set_option maxRecDepth 100000 in
/-- A node that stands first in its row: nothing is below it there. -/
theorem part_none {D : Ad} {w0 w : World} {Ws Vs : List (List (Int × Int))} {over : Int → Int} {v u : Int} {R : List (Int × Int)} (h : Tf D w0 w Ws over) (hW : (v, u) :: R ∈ Ws) :
    Calls Try.prog 59 #[.pointer (some ⟨D.gt, 0, none⟩), .int .i64 v] w fun e w' => (∃ z, e = .returned z) ∧ Tf D w0 w' Ws over ∧ Kt D w w' := by
  have HT := Aside0.mk h
  have h0 := h.c0
  clear h
  have hv : v ∈ ((v, u) :: R).map Prod.fst := List.mem_cons_self
  have hvv : (v == v) = true := by simp
  go_enter Try.func59, Try.ntmps59
  go_wp2_with (go_at_call 23; (with_reducible refine (HT.out.fm.first hW hv).mono ?_); rintro e w1 ⟨rfl, hF, hK⟩; have HT1 := Aside0.mk (HT.out.next hF hK); have HK1 := Aside0.mk hK; clear hF hK)
  refine bodyPost_ret (results_none rfl _ _ _) rfl ?_
  exact ⟨⟨_, rfl⟩, HT1.out, Kt.ke HK1.out⟩
set_option maxHeartbeats 8000000 in
set_option maxRecDepth 100000 in
/-- What is below a node is cut off its row. -/
theorem part_cut {D : Ad} {w0 w : World} {Ws Vs : List (List (Int × Int))} {over : Int → Int} {v u z zu : Int} {A R : List (Int × Int)} (h : Tf D w0 w Ws over) (hp : Ws.Perm ((A ++ [(z, zu)] ++ (v, u) :: R) :: Vs)) :
    Calls Try.prog 59 #[.pointer (some ⟨D.gt, 0, none⟩), .int .i64 v] w fun e w' => (∃ r, e = .returned r) ∧ Tf D w0 w' ((A ++ [(z, zu)]) :: ((v, u) :: R) :: Vs) (put over z v) ∧ Kt D w w' := by
  have hW : A ++ [(z, zu)] ++ (v, u) :: R ∈ Ws := hp.mem_iff.2 List.mem_cons_self
  have hv : v ∈ (A ++ [(z, zu)] ++ (v, u) :: R).map Prod.fst := by simp
  have hz : z ∈ (A ++ [(z, zu)] ++ (v, u) :: R).map Prod.fst := by simp
  obtain ⟨zn, hzn, rfl⟩ := h.fm.item hW hz
  obtain ⟨⟨y, yu⟩, B, hB⟩ : ∃ y B, A ++ [((zn : Int), zu)] = y :: B := by
    cases A with
    | nil => exact ⟨_, [], rfl⟩
    | cons a A => exact ⟨a, _, rfl⟩
  have hnd := h.fm.nodup
  have hyv : y ≠ v := fun e => by
    have h1 := (h.fm.perm hp).nodup
    rw [List.flatten_cons, List.map_append] at h1
    have h2 := (List.nodup_append.1 h1).1
    rw [hB, List.map_append] at h2
    exact (List.nodup_append.1 h2).2.2 y (by simp) v (by simp) e
  have hy0 : (((y, yu) :: B ++ (v, u) :: R).map Prod.fst)[0]? = some y := rfl
  have hyU : y ∈ ((A ++ [((zn : Int), zu)]).map Prod.fst) := by rw [hB]; exact List.mem_cons_self
  have hcut : cutL (A ++ [((zn : Int), zu)]) ((v, u) :: R) Vs = (A ++ [((zn : Int), zu)]) :: ((v, u) :: R) :: Vs := by
    unfold cutL
    rw [if_neg (by simp)]
    rfl
  have HY0 : Aside0 (((A ++ [((zn : Int), zu)] ++ (v, u) :: R).map Prod.fst)[0]? = some y) := ⟨by rw [hB]; rfl⟩
  have HT := Aside0.mk h
  have HP := Aside0.mk hp
  have HCUT := Aside0.mk hcut
  have hyv2 : (y == v) = false := beq_eq_false_iff_ne.mpr hyv
  have h0 := h.c0
  have h1 := h.c1
  have HLY : (zn : Int) < (D.N : Int) := by omega
  have hz0 : (0 : Int) ≤ (zn : Int) := Int.natCast_nonneg zn
  have HCO : (D.N : Int) ≤ (D.co : Int) := by have h_ := h.ne; omega
  clear h hp hB hnd hyv hy0 hcut
  go_enter Try.func59, Try.ntmps59
  go_wp2_with (first
    | (go_at_call 23; (with_reducible refine (HT.out.fm.first_i hW hv HY0.out).mono ?_); rintro e w1 ⟨rfl, hF, hK⟩; have HT1 := Aside0.mk (HT.out.next hF hK); have HK1 := Aside0.mk (Kt.ke hK); have h01 := HT1.out.c0; clear hF hK)
    | (go_at_call 18; (with_reducible refine (HT1.out.fm.split HP.out).mono ?_); rw [HCUT.out]; rintro e w2 ⟨rfl, hF, hK⟩; have HT2 := Aside0.mk (HT1.out.next hF hK); have HK2 := Aside0.mk (HK1.out.trans (Kt.ke hK)); have h02 := HT2.out.c0; have h12 := HT2.out.c1; clear hF hK))
  have HT2d := Aside0.mk (HT2.out.below (below_drew (Below.refl _ _)))
  have hS2 : w2.drew.cell? ⟨D.gt, 0, none⟩ = some (.pointer (some ⟨D.gs, 0, none⟩)) ∧ w2.drew.cell? ⟨D.gt, 1, none⟩ = some (.slice (some ⟨D.go, 0, none⟩) D.N D.co) := ⟨HT2d.out.c0, HT2d.out.c1⟩
  have hgo : ¬ D.go = D.gt := fun e => HT2.out.ne.2.2.2.2.1 e.symm
  have HK2d := Aside0.mk (HK2.out.trans (Kt.below (below_drew (Below.refl w2.heap.size w2))))
  clear HT HT1 HT2 HK1 HK2 h0 h1 h01 h02 h12
  go_region_held3 (fun W_ => W_.cell? ⟨D.gt, 0, none⟩ = some (.pointer (some ⟨D.gs, 0, none⟩)) ∧ W_.cell? ⟨D.gt, 1, none⟩ = some (.slice (some ⟨D.go, 0, none⟩) D.N D.co)) (first | assumption | go_keep)
    (first
      | (go_at_call 24; (with_reducible refine (HT2d.out.fm.last List.mem_cons_self hyU).mono ?_); rintro e w3 ⟨rfl, hF, hK⟩; have HT3 := Aside0.mk (HT2d.out.next hF hK); have HK3 := Aside0.mk (HK2d.out.trans (Kt.ke hK)); have hS3 : w3.cell? ⟨D.gt, 0, none⟩ = some (.pointer (some ⟨D.gs, 0, none⟩)) ∧ w3.cell? ⟨D.gt, 1, none⟩ = some (.slice (some ⟨D.go, 0, none⟩) D.N D.co) := ⟨HT3.out.c0, HT3.out.c1⟩; obtain ⟨ho3, hf3⟩ := HT3.out.at_ (Int.ofNat_lt.1 HLY); clear hF hK))
  refine bodyPost_end (results_none rfl _ _ _) rfl ?_
  have h_ := HT3.out.set (Int.ofNat_lt.1 HLY) v
  exact ⟨⟨_, rfl⟩, h_.1, HK3.out.trans h_.2⟩
end Go.Proofs.YtcnmbgijehnchaaW.Splay
/- access: the way up of a node becomes a row (contract by hand). -/
namespace Go.Proofs.YtcnmbgijehnchaaW.Splay
open Go.RowKit Go.Shelf Go.Proofs.YtcnmbgijehnchaaW.PrintWords Go.Proofs.YtcnmbgijehnchaaW.PrintLast Go.Proofs.YtcnmbgijehnchaaW.PrintMore Go.Proofs.YtcnmbgijehnchaaW.Mine
attribute [local go_sem] max2_int min2_int max_two min_two max_three min_three max_four min_four Oper.semAt_some
def keysOf (Ws : List (List (Int × Int))) : List (List Int) := Ws.map (List.map Prod.fst)
theorem keysOf_flat (Ws : List (List (Int × Int))) : (keysOf Ws).flatten = Ws.flatten.map Prod.fst := (List.map_flatten ..).symm
/-- The rows, what stands over them, and what each node is worth: a forest of trees. -/
structure Tk (D : Ad) (w0 w : World) (up val : Int → Int) (Ws : List (List (Int × Int))) (over : Int → Int) : Prop where
  tf : Tf D w0 w Ws over
  inv : Fiv up over (keysOf Ws)
  vals : ∀ W ∈ Ws, ∀ y ∈ W, y.2 = val y.1
section
variable {D : Ad} {w0 w w1 : World} {up val : Int → Int} {Ws Vs : List (List (Int × Int))} {W V : List (Int × Int)} {over : Int → Int} {x y v u z : Int}
theorem Tk.below (h : Tk D w0 w up val Ws over) (hb : Below w.heap.size w w1) : Tk D w0 w1 up val Ws over := ⟨h.tf.below hb, h.inv, h.vals⟩
theorem Tk.perm (h : Tk D w0 w up val Ws over) (hp : Ws.Perm Vs) : Tk D w0 w up val Vs over := ⟨h.tf.perm hp, h.inv.perm (hp.map _), fun W hW => h.vals W (hp.mem_iff.2 hW)⟩
theorem Tk.seg (h : Tk D w0 w up val Ws over) (hW : W ∈ Ws) : Seg up (W.map Prod.fst) := h.inv.seg _ (List.mem_map.2 ⟨W, hW, rfl⟩)
theorem Tk.rng (h : Tk D w0 w up val Ws over) (hW : W ∈ Ws) : ∀ x ∈ W.map Prod.fst, 0 ≤ x ∧ x < (D.N : Int) := fun x hx => (h.tf.fm.cover x).1 (mem_flat hW hx)
theorem Tk.top (h : Tk D w0 w up val Ws over) {A : List (Int × Int)} {zu : Int} (hW : A ++ [(z, zu)] ∈ Ws) : up z = over z :=
  h.inv.top _ (List.mem_map.2 ⟨_, hW, rfl⟩) (A.map Prod.fst) z (by simp)
/-- A row whose top nothing stands over is the way up of its first node. -/
theorem Tk.way (h : Tk D w0 w up val Ws over) {A : List (Int × Int)} {zu : Int} (hW : A ++ [(z, zu)] ∈ Ws) (h1 : over z = -1) {R : List (Int × Int)} (e : A ++ [(z, zu)] = (v, u) :: R) : Way (D.N : Int) up v ((A ++ [(z, zu)]).map Prod.fst) := by
  have hs := h.seg hW
  refine ⟨?_, by rw [e]; rfl, h.rng hW⟩
  rw [List.map_append] at hs ⊢
  exact IsPath.of_seg hs ((h.top hW).trans h1)
/-- What stands over a row's top lies in another row. -/
theorem Tk.apart (h : Tk D w0 w up val Ws over) (ho : Ok (D.N : Int) up) {A : List (Int × Int)} {zu : Int} (hW : A ++ [(z, zu)] ∈ Ws) (h1 : over z = y) (h2 : y ≠ -1) : 0 ≤ y ∧ y < (D.N : Int) ∧ y ∉ (A ++ [(z, zu)]).map Prod.fst := by
  have hz := h.rng hW z (by simp)
  have hup : up z = y := (h.top hW).trans h1
  obtain ⟨p, hp⟩ := ho z hz.1 hz.2
  have hyr : 0 ≤ y ∧ y < (D.N : Int) := by
    rcases hp.up_cases with ⟨e, _⟩ | ⟨q, l, e, a, b, _⟩
    · exact absurd (hup.symm.trans e) h2
    · rw [← hup, e]
      exact ⟨a, b⟩
  refine ⟨hyr.1, hyr.2, fun hy => ?_⟩
  have hs := h.seg hW
  obtain ⟨⟨f, fu⟩, B, hB⟩ : ∃ f B, A ++ [(z, zu)] = f :: B := by
    cases A with
    | nil => exact ⟨_, [], rfl⟩
    | cons a A => exact ⟨a, _, rfl⟩
  have hf := h.rng hW f (by rw [hB]; exact List.mem_cons_self)
  obtain ⟨q, hq⟩ := ho f hf.1 hf.2
  have hn1 : ∀ x ∈ (A ++ [(z, zu)]).map Prod.fst, x ≠ -1 := fun x hx => by have := h.rng hW x hx; omega
  obtain ⟨r, hr⟩ := Seg.prefix_path hs hq.path hn1 hq.no1 (by simp) (by rw [hq.head, hB]; rfl)
  subst hr
  cases r with
  | nil =>
    have := hq.path
    rw [List.append_nil, List.map_append] at this
    exact h2 (hup.symm.trans (IsPath.last (a := A.map Prod.fst) this))
  | cons r0 r =>
    have h3 := hq.path.seg
    rw [List.map_append, List.append_assoc] at h3
    have h4 : up z = r0 := Seg.mid (a := A.map Prod.fst) h3
    have hnd := hq.nodup
    exact (List.nodup_append.1 hnd).2.2 y hy r0 List.mem_cons_self (hup.symm.trans h4)
end
/-- part, whichever way it goes. -/
theorem part_any {D : Ad} {w0 w : World} {up val : Int → Int} {Ws : List (List (Int × Int))} {over : Int → Int} {W : List (Int × Int)} {v : Int} (h : Tk D w0 w up val Ws over) (hW : W ∈ Ws) (hv : v ∈ W.map Prod.fst) :
    Calls Try.prog 59 #[.pointer (some ⟨D.gt, 0, none⟩), .int .i64 v] w fun e w' => (∃ r, e = .returned r) ∧ Kt D w w' ∧ ∃ Us over2 u R, Tk D w0 w' up val Us over2 ∧ (v, u) :: R ∈ Us ∧ (∀ V ∈ Ws, V ≠ W → V ∈ Us) ∧ ∀ y, y ∉ W.map Prod.fst → over2 y = over y := by
  obtain ⟨L, u, R, rfl⟩ := part_at hv
  by_cases hL : L = []
  · subst hL
    refine (part_none (Vs := []) h.tf hW).mono ?_
    rintro e w' ⟨he, hT, hK⟩
    exact ⟨he, hK, Ws, over, u, R, ⟨hT, h.inv, h.vals⟩, hW, fun V hV _ => hV, fun y _ => rfl⟩
  · obtain ⟨A, ⟨z, zu⟩, rfl⟩ : ∃ A p, L = A ++ [p] := ⟨L.dropLast, L.getLast hL, (List.dropLast_concat_getLast hL).symm⟩
    have hp := List.perm_cons_erase hW
    refine (part_cut h.tf hp).mono ?_
    rintro e w' ⟨he, hT, hK⟩
    have hi := h.inv.perm (hp.map (List.map Prod.fst))
    have hn : (keysOf ((A ++ [(z, zu)] ++ (v, u) :: R) :: Ws.erase (A ++ [(z, zu)] ++ (v, u) :: R))).flatten.Nodup := by
      rw [keysOf_flat]
      exact (h.tf.fm.perm hp).nodup
    have e1 : keysOf ((A ++ [(z, zu)] ++ (v, u) :: R) :: Ws.erase (A ++ [(z, zu)] ++ (v, u) :: R)) = (A.map Prod.fst ++ [z] ++ v :: R.map Prod.fst) :: keysOf (Ws.erase (A ++ [(z, zu)] ++ (v, u) :: R)) := by simp [keysOf]
    have hi : Fiv up over (keysOf ((A ++ [(z, zu)] ++ (v, u) :: R) :: Ws.erase (A ++ [(z, zu)] ++ (v, u) :: R))) := hi
    rw [e1] at hi hn
    have h2 := Fiv.part hi hn
    refine ⟨he, hK, _, _, u, R, ⟨hT, ?_, fun V hV y hy => ?_⟩, by simp, fun V hV hne => ?_, fun y hy => put_ne (fun e => hy (by rw [e]; simp))⟩
    · have e2 : keysOf ((A ++ [(z, zu)]) :: ((v, u) :: R) :: Ws.erase (A ++ [(z, zu)] ++ (v, u) :: R)) = (A.map Prod.fst ++ [z]) :: (v :: R.map Prod.fst) :: keysOf (Ws.erase (A ++ [(z, zu)] ++ (v, u) :: R)) := by simp [keysOf]
      rw [e2]
      exact h2
    · rcases List.mem_cons.1 hV with rfl | hV
      · exact h.vals _ hW y (List.mem_append_left _ hy)
      · rcases List.mem_cons.1 hV with rfl | hV
        · exact h.vals _ hW y (List.mem_append_right _ hy)
        · exact h.vals V (List.mem_of_mem_erase hV) y hy
    · exact List.mem_cons_of_mem _ (List.mem_cons_of_mem _ ((List.mem_erase_of_ne hne).2 hV))
set_option maxHeartbeats 8000000 in
set_option maxRecDepth 100000 in
theorem access_calls {D : Ad} {w0 w : World} {up val : Int → Int} {Ws : List (List (Int × Int))} {over : Int → Int} {v : Int} (h : Tk D w0 w up val Ws over) (ho : Ok (D.N : Int) up) (h0 : 0 ≤ v) (h1 : v < (D.N : Int)) :
    Calls Try.prog 51 #[.pointer (some ⟨D.gt, 0, none⟩), .int .i64 v] w fun e w' => (∃ r, e = .returned r) ∧ Kt D w w' ∧ ∃ Us over2 W, Tk D w0 w' up val Us over2 ∧ W ∈ Us ∧ Way (D.N : Int) up v (W.map Prod.fst) := by
  have HT := Aside0.mk h
  have HO := Aside0.mk ho
  obtain ⟨W0, hW0, hv0⟩ := h.tf.fm.row_of h0 h1
  clear h ho
  go_enter Try.func51, Try.ntmps51
  go_wp2_with (go_at_call 59; (with_reducible refine (part_any HT.out hW0 hv0).mono ?_); rintro e w1 ⟨⟨r, rfl⟩, hK, Us, over1, u, R, hT, hR, _, _⟩; have HT1 := Aside0.mk hT; have HK1 := Aside0.mk hK; have HR1 := Aside0.mk hR; clear hT hK hR)
  go_loopg [4, 5] (D.N + 1) (fun kq v4 v5 wr => ∃ (Ws : List (List (Int × Int))) (over : Int → Int) (u : Int) (R : List (Int × Int)), Aside0 (D.N ≤ R.length + kq) ∧ Aside0 (Tk D w0 wr up val Ws over) ∧ Aside0 ((v, u) :: R ∈ Ws) ∧ Aside0 (Kt D w wr))
  case atStart => exact ⟨_, _, _, _, ⟨by omega⟩, HT1, HR1, HK1⟩
  case round =>
    clear HT1 HR1 HK1 HT
    obtain ⟨Ws, over, u, R, HL, HT, HR, HK⟩ := hrel
    obtain ⟨A, ⟨z, zu⟩, eA⟩ : ∃ A p, (v, u) :: R = A ++ [p] := ⟨((v, u) :: R).dropLast, ((v, u) :: R).getLast (by simp), (List.dropLast_concat_getLast (by simp)).symm⟩
    have hWz : A ++ [(z, zu)] ∈ Ws := eA ▸ HR.out
    have hvW : v ∈ (A ++ [(z, zu)]).map Prod.fst := by rw [← eA]; exact List.mem_cons_self
    obtain ⟨zn, hzn, rfl⟩ := HT.out.tf.fm.item hWz (x := z) (by simp)
    have hlt : (zn : Int) < (D.N : Int) := Int.ofNat_lt.2 hzn
    have hz0 : (0 : Int) ≤ (zn : Int) := Int.natCast_nonneg zn
    have hlenW := HT.out.tf.fm.rlen HR.out
    obtain ⟨yy, hyy⟩ : ∃ yy, over (zn : Int) = yy := ⟨_, rfl⟩
    have HCO : (D.N : Int) ≤ (D.co : Int) := by have h_ := HT.out.tf.ne; omega
    have h0c := HT.out.tf.c0
    by_cases cy : yy = -1
    · subst cy
      have HWY : Aside0 (Way (D.N : Int) up v ((A ++ [((zn : Int), zu)]).map Prod.fst)) := ⟨HT.out.way hWz hyy eA.symm⟩
      have hyt : ((-1 : Int) == -1) = true := rfl
      go_wp2_with (go_at_call 24; (with_reducible refine (HT.out.tf.fm.last hWz hvW).mono ?_); rintro e w2 ⟨rfl, hF, hK⟩; have HT2 := Aside0.mk (HT.out.tf.next hF hK); have HK2 := Aside0.mk (HK.out.trans (Kt.ke hK)); have h12 := HT2.out.c1; obtain ⟨hc2, hf2⟩ := HT2.out.at_ hzn; rw [hyy] at hc2; clear hF hK)
      refine bodyPost_ret (results_none rfl _ _ _) rfl ?_
      exact ⟨⟨_, rfl⟩, HK2.out, Ws, over, _, ⟨HT2.out, HT.out.inv, HT.out.vals⟩, hWz, HWY.out⟩
    · obtain ⟨k1, k2, k3⟩ := HT.out.apart HO.out hWz hyy cy
      obtain ⟨V, hV, hyV⟩ := HT.out.tf.fm.row_of k1 k2
      have hyt : (yy == -1) = false := beq_eq_false_iff_ne.mpr cy
      have HYY := Aside0.mk hyy
      have HYW := Aside0.mk k3
      have HVW : Aside0 (A ++ [((zn : Int), zu)] ≠ V) := ⟨fun e => k3 (by rw [e]; exact hyV)⟩
      have HZV : Aside0 ((zn : Int) ∉ V.map Prod.fst) := ⟨fun hz => HVW.out (nod_same HT.out.tf.fm.nodup hWz hV (by simp) hz)⟩
      clear hyy cy k1 k2 k3
      go_wp2_with (first
        | (go_at_call 24; (with_reducible refine (HT.out.tf.fm.last hWz hvW).mono ?_); rintro e w2 ⟨rfl, hF, hK⟩; have HT2 : Aside0 (Tk D w0 w2 up val Ws over) := ⟨⟨HT.out.tf.next hF hK, HT.out.inv, HT.out.vals⟩⟩; have HK2 := Aside0.mk (HK.out.trans (Kt.ke hK)); have h12 := HT2.out.tf.c1; obtain ⟨hc2, hf2⟩ := HT2.out.tf.at_ hzn; rw [HYY.out] at hc2; clear hF hK)
        | (go_at_call 59; (with_reducible refine (part_any HT2.out hV hyV).mono ?_); rintro e w3 ⟨⟨r, rfl⟩, hK, Us, over3, wu, S, hT, hS, hkeep, hov⟩; have HT3 := Aside0.mk hT; have HK3 := Aside0.mk (HK2.out.trans hK); have HS3 := Aside0.mk hS; have HW3 := Aside0.mk (hkeep _ hWz HVW.out); have HO3 : Aside0 (over3 (zn : Int) = yy) := ⟨(hov _ HZV.out).trans HYY.out⟩; have h13 := hT.tf.c1; obtain ⟨hc3, hf3⟩ := hT.tf.at_ hzn; have HT4 := Aside0.mk (hT.tf.set hzn (-1)); have h04 := HT4.out.1.c0; clear hT hK hS hkeep hov hc2 hf2 h12)
        | (go_at_call 15; obtain ⟨Vs, hp⟩ := two_perm HW3.out HS3.out (fun e => HYW.out (by rw [e]; exact List.mem_cons_self)); (with_reducible refine (HT4.out.1.fm.join hp hvW (b := yy) List.mem_cons_self).mono ?_); rintro e w5 ⟨rfl, hF, hK⟩; have HP := Aside0.mk hp; have HT5 := Aside0.mk (HT4.out.1.next hF hK); have HK5 := Aside0.mk ((HK3.out.trans HT4.out.2).trans (Kt.ke hK)); clear hF hK hp))
      have hgk : 0 < gk := by have h1_ := HL.out; rw [List.length_cons] at hlenW; omega
      go_roundg (gk - 1)
      case measure => omega
      case rel =>
        have e5 : A ++ [((zn : Int), zu)] ++ (yy, wu) :: S = (v, u) :: (R ++ (yy, wu) :: S) := by rw [← eA]; rfl
        have h3 := HT3.out.perm HP.out
        have e6 : keysOf ((A ++ [((zn : Int), zu)]) :: ((yy, wu) :: S) :: Vs) = (A.map Prod.fst ++ [(zn : Int)]) :: (yy :: S.map Prod.fst) :: keysOf Vs := by simp [keysOf]
        have hn : (keysOf ((A ++ [((zn : Int), zu)]) :: ((yy, wu) :: S) :: Vs)).flatten.Nodup := by
          rw [keysOf_flat]
          exact h3.tf.fm.nodup
        have hi := h3.inv
        rw [e6] at hi hn
        have hj := Fiv.join hi hn HO3.out
        have e7 : keysOf ((A ++ [((zn : Int), zu)] ++ (yy, wu) :: S) :: Vs) = (A.map Prod.fst ++ [(zn : Int)] ++ yy :: S.map Prod.fst) :: keysOf Vs := by simp [keysOf]
        refine ⟨_, _, u, R ++ (yy, wu) :: S, ⟨?_⟩, ⟨⟨HT5.out, by rw [e7]; exact hj, fun V hV y hy => ?_⟩⟩, ⟨by rw [e5]; exact List.mem_cons_self⟩, HK5⟩
        · have h1_ := HL.out
          rw [List.length_append, List.length_cons]
          omega
        · rcases List.mem_cons.1 hV with rfl | hV
          · rcases List.mem_append.1 hy with hy | hy
            · exact h3.vals _ List.mem_cons_self y hy
            · exact h3.vals _ (List.mem_cons_of_mem _ List.mem_cons_self) y hy
          · exact h3.vals V (List.mem_cons_of_mem _ (List.mem_cons_of_mem _ hV)) y hy
end Go.Proofs.YtcnmbgijehnchaaW.Splay
/- The forest's calls, told of who is above whom and what each node is worth (contracts by hand). -/
namespace Go.Proofs.YtcnmbgijehnchaaW.Splay
open Go.RowKit Go.Shelf Go.Proofs.YtcnmbgijehnchaaW.PrintWords Go.Proofs.YtcnmbgijehnchaaW.PrintLast Go.Proofs.YtcnmbgijehnchaaW.PrintMore Go.Proofs.YtcnmbgijehnchaaW.Mine
attribute [local go_sem] max2_int min2_int max_two min_two max_three min_three max_four min_four Oper.semAt_some
/-- A forest of trees in the world. -/
structure Tm (D : Ad) (w0 w : World) (up val : Int → Int) : Prop where
  ex : ∃ Ws over, Tk D w0 w up val Ws over
  ok : Ok (D.N : Int) up
section
variable {D : Ad} {w0 w w1 : World} {up val : Int → Int} {p q : List Int} {v u x y z : Int} {Ws : List (List (Int × Int))} {over : Int → Int} {W : List (Int × Int)}
theorem Tm.below (h : Tm D w0 w up val) (hb : Below w.heap.size w w1) : Tm D w0 w1 up val := by
  obtain ⟨⟨Ws, over, h1⟩, h2⟩ := h
  exact ⟨⟨Ws, over, h1.below hb⟩, h2⟩
theorem Tm.old (h : Tm D w0 w up val) : Below w0.heap.size w0 w := by
  obtain ⟨⟨Ws, over, h1⟩, h2⟩ := h
  exact h1.tf.fm.old
theorem Tm.small (h : Tm D w0 w up val) : D.N ≤ 3000 := by
  obtain ⟨⟨Ws, over, h1⟩, h2⟩ := h
  exact h1.tf.small
theorem Way.inN {N : Int} (h : Way N up v p) : 0 ≤ v ∧ v < N := by
  obtain ⟨l, rfl⟩ := h.cons
  exact h.rng v List.mem_cons_self
theorem Way.second {N : Int} (h : Way N up v p) : p.getD 1 (-1) = up v := by
  rcases h.up_cases with ⟨e, rfl⟩ | ⟨u, l, e, _, _, rfl, _⟩
  · exact e.symm
  · exact e.symm
theorem tm_there (h : Tm D w0 w up val) (h0 : 0 ≤ v) (h1 : v < (D.N : Int)) :
    Calls Try.prog 50 #[.pointer (some ⟨D.gt, 0, none⟩), .int .i64 v] w fun e w' => e = .returned (.bool true) ∧ w' = w := by
  obtain ⟨⟨Ws, over, h2⟩, _⟩ := h
  have h3 := tthere_calls h2.tf v
  rwa [decide_eq_true ⟨h0, h1⟩] at h3
/-- The way up of a node is a row of its own. -/
structure Tw (D : Ad) (w0 w : World) (up val : Int → Int) (p : List Int) (Ws : List (List (Int × Int))) (over : Int → Int) (W : List (Int × Int)) : Prop where
  tk : Tk D w0 w up val Ws over
  mem : W ∈ Ws
  keys : W.map Prod.fst = p
theorem tm_access (h : Tm D w0 w up val) (hp : Way (D.N : Int) up v p) :
    Calls Try.prog 51 #[.pointer (some ⟨D.gt, 0, none⟩), .int .i64 v] w fun e w' => (∃ r, e = .returned r) ∧ Kt D w w' ∧ ∃ Ws over W, Tw D w0 w' up val p Ws over W := by
  obtain ⟨⟨Ws, over, h1⟩, ho⟩ := h
  refine (access_calls h1 ho hp.inN.1 hp.inN.2).mono ?_
  rintro e w' ⟨he, hK, Us, over2, W, hT, hW, hway⟩
  exact ⟨he, hK, Us, over2, W, hT, hW, hway.uniq hp⟩
theorem Tw.tm (h : Tw D w0 w up val p Ws over W) (ho : Ok (D.N : Int) up) : Tm D w0 w up val := ⟨⟨_, _, h.tk⟩, ho⟩
theorem Tw.call (h : Tw D w0 w up val p Ws over W) (hF : Fm w0 w1 D.gs D.gn D.N D.cap Ws) (hK : Ke D.gs D.gn w w1) : Tw D w0 w1 up val p Ws over W := ⟨⟨h.tk.tf.next hF hK, h.tk.inv, h.tk.vals⟩, h.mem, h.keys⟩
end
set_option maxHeartbeats 8000000 in
set_option maxRecDepth 100000 in
theorem above_row {D : Ad} {w0 w : World} {up val : Int → Int} {p : List Int} {v : Int} (h : Tm D w0 w up val) (hp : Way (D.N : Int) up v p) :
    Calls Try.prog 33 #[.pointer (some ⟨D.gt, 0, none⟩), .int .i64 v] w fun e w' => e = .returned (.int .i64 (up v)) ∧ (∃ Ws over W, Tw D w0 w' up val p Ws over W) ∧ Kt D w w' := by
  have HT := Aside0.mk h
  have HP := Aside0.mk hp
  clear h hp
  go_enter Try.func33, Try.ntmps33
  go_wp2_with (first
    | (go_at_call 50; (with_reducible refine (tm_there HT.out HP.out.inN.1 HP.out.inN.2).mono ?_); rintro e w' ⟨rfl, hw'⟩; have hw' := hw'.symm; subst hw')
    | (go_at_call 51; (with_reducible refine (tm_access HT.out HP.out).mono ?_); rintro e w1 ⟨⟨r, rfl⟩, hK, Ws, over, W, hT⟩; have HT1 := Aside0.mk hT; have HK1 := Aside0.mk hK; have h01 := hT.tk.tf.c0; clear hK hT)
    | (go_at_call 22; (with_reducible refine (HT1.out.tk.tf.fm.at HT1.out.mem (x := v) (by rw [HT1.out.keys]; obtain ⟨l, e⟩ := HP.out.cons; rw [e]; exact List.mem_cons_self) 1).mono ?_); rw [HT1.out.keys, if_neg (by decide), show ((1 : Int)).toNat = 1 from rfl, HP.out.second]; rintro e w2 ⟨rfl, hF, hK⟩; have HT2 := Aside0.mk (HT1.out.call hF hK); have HK2 := Aside0.mk (HK1.out.trans (Kt.ke hK)); clear hF hK))
  go_ret
  exact ⟨rfl, ⟨_, _, _, HT2.out⟩, HK2.out⟩
theorem above_calls {D : Ad} {w0 w : World} {up val : Int → Int} {p : List Int} {v : Int} (h : Tm D w0 w up val) (hp : Way (D.N : Int) up v p) :
    Calls Try.prog 33 #[.pointer (some ⟨D.gt, 0, none⟩), .int .i64 v] w fun e w' => e = .returned (.int .i64 (up v)) ∧ Tm D w0 w' up val ∧ Kt D w w' := by
  refine (above_row h hp).mono ?_
  rintro e w' ⟨he, ⟨_, _, _, hT⟩, hK⟩
  exact ⟨he, hT.tm h.ok, hK⟩
set_option maxHeartbeats 8000000 in
set_option maxRecDepth 100000 in
theorem root_calls {D : Ad} {w0 w : World} {up val : Int → Int} {a : List Int} {v r : Int} (h : Tm D w0 w up val) (hp : Way (D.N : Int) up v (a ++ [r])) :
    Calls Try.prog 32 #[.pointer (some ⟨D.gt, 0, none⟩), .int .i64 v] w fun e w' => e = .returned (.int .i64 r) ∧ Tm D w0 w' up val ∧ Kt D w w' := by
  have HT := Aside0.mk h
  have HP := Aside0.mk hp
  clear h hp
  have HL : Aside0 (∀ W : List (Int × Int), W.map Prod.fst = a ++ [r] → ∃ m, W.length = m + 1 ∧ (W.map Prod.fst)[m]? = some r) := ⟨fun W e => ⟨a.length, by rw [← List.length_map (f := Prod.fst), e, List.length_append, List.length_singleton], by rw [e, List.getElem?_append_right (Nat.le_refl _), Nat.sub_self]; rfl⟩⟩
  go_enter Try.func32, Try.ntmps32
  go_wp2_with (first
    | (go_at_call 50; (with_reducible refine (tm_there HT.out HP.out.inN.1 HP.out.inN.2).mono ?_); rintro e w' ⟨rfl, hw'⟩; have hw' := hw'.symm; subst hw')
    | (go_at_call 51; (with_reducible refine (tm_access HT.out HP.out).mono ?_); rintro e w1 ⟨⟨r0, rfl⟩, hK, Ws, over, W, hT⟩; have HT1 := Aside0.mk hT; have HK1 := Aside0.mk hK; have h01 := hT.tk.tf.c0; clear hK hT)
    | (go_at_call 24; obtain ⟨m, hm1, hm2⟩ := HL.out _ HT1.out.keys; (with_reducible refine (HT1.out.tk.tf.fm.last_i HT1.out.mem (x := v) (by rw [HT1.out.keys]; obtain ⟨l, e⟩ := HP.out.cons; rw [e]; exact List.mem_cons_self) hm1 hm2).mono ?_); rintro e w2 ⟨rfl, hF, hK⟩; have HT2 := Aside0.mk (HT1.out.call hF hK); have HK2 := Aside0.mk (HK1.out.trans (Kt.ke hK)); clear hF hK hm1 hm2))
  go_ret
  exact ⟨rfl, HT2.out.tm HT.out.ok, HK2.out⟩
end Go.Proofs.YtcnmbgijehnchaaW.Splay
/- The forest's calls that change it (contracts by hand). -/
namespace Go.Proofs.YtcnmbgijehnchaaW.Splay
open Go.RowKit Go.Shelf Go.Proofs.YtcnmbgijehnchaaW.PrintWords Go.Proofs.YtcnmbgijehnchaaW.PrintLast Go.Proofs.YtcnmbgijehnchaaW.PrintMore Go.Proofs.YtcnmbgijehnchaaW.Mine
attribute [local go_sem] max2_int min2_int max_two min_two max_three min_three max_four min_four Oper.semAt_some
section
variable {D : Ad} {w0 w w1 : World} {up val : Int → Int} {p q : List Int} {v u x y z : Int} {Ws Vs : List (List (Int × Int))} {over : Int → Int} {W : List (Int × Int)}
theorem Tk.nod (h : Tk D w0 w up val Ws over) : (keysOf Ws).flatten.Nodup := by
  rw [keysOf_flat]
  exact h.tf.fm.nodup
theorem Tk.cut {vv uu : Int} {R : List (Int × Int)} (h : Tk D w0 w up val (((v, vv) :: (u, uu) :: R) :: Vs) over) (hF : Fm w0 w1 D.gs D.gn D.N D.cap ([(v, vv)] :: ((u, uu) :: R) :: Vs)) (hK : Ke D.gs D.gn w w1) : Tk D w0 w1 (put up v (-1)) val ([(v, vv)] :: ((u, uu) :: R) :: Vs) over := by
  refine ⟨h.tf.next hF hK, ?_, fun V hV y hy => ?_⟩
  · have e1 : keysOf (((v, vv) :: (u, uu) :: R) :: Vs) = (v :: u :: R.map Prod.fst) :: keysOf Vs := rfl
    have hi := h.inv
    have hn := h.nod
    rw [e1] at hi hn
    exact hi.cut hn
  · rcases List.mem_cons.1 hV with rfl | hV
    · exact h.vals _ List.mem_cons_self y (by rw [List.mem_singleton.1 hy]; exact List.mem_cons_self)
    · rcases List.mem_cons.1 hV with rfl | hV
      · exact h.vals _ List.mem_cons_self y (List.mem_cons_of_mem _ hy)
      · exact h.vals V (List.mem_cons_of_mem _ hV) y hy
theorem Tk.turn (h : Tk D w0 w up val (W :: Vs) over) (hp : IsPath up (W.map Prod.fst)) (hF : Fm w0 w1 D.gs D.gn D.N D.cap (W.reverse :: Vs)) (hK : Ke D.gs D.gn w w1) : Tk D w0 w1 (turnUp up (W.map Prod.fst)) val (W.reverse :: Vs) over := by
  refine ⟨h.tf.next hF hK, ?_, fun V hV y hy => ?_⟩
  · have hi := Fiv.turn (P := W.map Prod.fst) (Ks := keysOf Vs) h.inv h.nod hp
    have e1 : keysOf (W.reverse :: Vs) = (W.map Prod.fst).reverse :: keysOf Vs := by simp [keysOf]
    rw [e1]
    exact hi
  · rcases List.mem_cons.1 hV with rfl | hV
    · exact h.vals _ List.mem_cons_self y (List.mem_reverse.1 hy)
    · exact h.vals V (List.mem_cons_of_mem _ hV) y hy
theorem Tk.link {vv : Int} {n : Nat} (hn : n < D.N) (h : Tk D w0 w up val ([((n : Int), vv)] :: Vs) over) (z : Int) : Tk D w0 (w.setCell ⟨D.go, n, none⟩ (.int .i64 z)) (put up (n : Int) z) val ([((n : Int), vv)] :: Vs) (put over (n : Int) z) ∧ Kt D w (w.setCell ⟨D.go, n, none⟩ (.int .i64 z)) := by
  obtain ⟨h1, h2⟩ := h.tf.set hn z
  exact ⟨⟨h1, Fiv.link (Ks := keysOf Vs) h.inv h.nod, h.vals⟩, h2⟩
theorem keys_one {W : List (Int × Int)} (h : W.map Prod.fst = [v]) : ∃ vv, W = [(v, vv)] := by
  cases W with
  | nil => simp at h
  | cons a W =>
    obtain ⟨a, b⟩ := a
    cases W with
    | nil => simp at h; exact ⟨b, by rw [h]⟩
    | cons c W => simp at h
theorem keys_two {W : List (Int × Int)} {l : List Int} (h : W.map Prod.fst = v :: u :: l) : ∃ vv uu R, W = (v, vv) :: (u, uu) :: R := by
  cases W with
  | nil => simp at h
  | cons a W =>
    obtain ⟨a, b⟩ := a
    cases W with
    | nil => simp at h
    | cons c W =>
      obtain ⟨c, d⟩ := c
      simp at h
      exact ⟨b, d, W, by rw [h.1, h.2.1]⟩
end
set_option maxHeartbeats 8000000 in
set_option maxRecDepth 100000 in
theorem cut_calls {D : Ad} {w0 w : World} {up val : Int → Int} {v : Int} (h : Tm D w0 w up val) (h0 : 0 ≤ v) (h1 : v < (D.N : Int)) :
    Calls Try.prog 31 #[.pointer (some ⟨D.gt, 0, none⟩), .int .i64 v] w fun e w' => ((up v = -1 ∧ e = .returned (.int .i64 9)) ∨ (up v ≠ -1 ∧ e = .returned (.int .i64 0))) ∧ Tm D w0 w' (put up v (-1)) val ∧ Kt D w w' := by
  obtain ⟨p, hp⟩ := h.ok v h0 h1
  have HT := Aside0.mk h
  have HP := Aside0.mk hp
  rcases hp.up_cases with ⟨e, rfl⟩ | ⟨u, l, e, _, _, rfl, _⟩
  · have hpe : put up v (-1) = up := by
      funext y
      by_cases c : y = v
      · rw [c, put_same, e]
      · exact put_ne c
    rw [hpe]
    have HE := Aside0.mk e
    clear h hp e hpe
    go_enter Try.func31, Try.ntmps31
    go_wp2_with (first
      | (go_at_call 50; (with_reducible refine (tm_there HT.out HP.out.inN.1 HP.out.inN.2).mono ?_); rintro e w' ⟨rfl, hw'⟩; have hw' := hw'.symm; subst hw')
      | (go_at_call 33; (with_reducible refine (above_calls HT.out HP.out).mono ?_); rw [HE.out]; rintro e w1 ⟨rfl, hT, hK⟩; have HT1 := Aside0.mk hT; have HK1 := Aside0.mk hK; clear hK hT))
    go_ret
    exact ⟨.inl ⟨HE.out, rfl⟩, HT1.out, HK1.out⟩
  · have hun : u ≠ -1 := hp.no1 u (by simp)
    have hub : (u == -1) = false := beq_eq_false_iff_ne.mpr hun
    have HE := Aside0.mk e
    have HU := Aside0.mk hun
    clear h hp e hun
    go_enter Try.func31, Try.ntmps31
    go_wp2_with (first
      | (go_at_call 50; (with_reducible refine (tm_there HT.out HP.out.inN.1 HP.out.inN.2).mono ?_); rintro e w' ⟨rfl, hw'⟩; have hw' := hw'.symm; subst hw')
      | (go_at_call 33; (with_reducible refine (above_row HT.out HP.out).mono ?_); rw [HE.out]; rintro e w1 ⟨rfl, ⟨Ws, over, W, hT⟩, hK⟩; obtain ⟨vv, uu, R, eW⟩ := keys_two hT.keys; have HT1 := Aside0.mk (hT.tk.perm (List.perm_cons_erase (eW ▸ hT.mem))); have HK1 := Aside0.mk hK; have h01 := hT.tk.tf.c0; clear hK hT)
      | (go_at_call 18; (with_reducible refine (HT1.out.tf.fm.split (L := [(v, vv)]) (List.Perm.refl _)).mono ?_); rintro e w2 ⟨rfl, hF, hK⟩; have HT2 := Aside0.mk (HT1.out.cut hF hK); have HK2 := Aside0.mk (HK1.out.trans (Kt.ke hK)); clear hF hK))
    go_ret
    exact ⟨.inr ⟨fun e => HU.out (HE.out.symm.trans e), rfl⟩, ⟨⟨_, _, HT2.out⟩, HT.out.ok.cut⟩, HK2.out⟩
set_option maxHeartbeats 8000000 in
set_option maxRecDepth 100000 in
theorem evert_calls {D : Ad} {w0 w : World} {up val : Int → Int} {p : List Int} {v : Int} (h : Tm D w0 w up val) (hp : Way (D.N : Int) up v p) :
    Calls Try.prog 35 #[.pointer (some ⟨D.gt, 0, none⟩), .int .i64 v] w fun e w' => e = .returned (.int .i64 0) ∧ Tm D w0 w' (turnUp up p) val ∧ Kt D w w' := by
  have HT := Aside0.mk h
  have HP := Aside0.mk hp
  clear h hp
  go_enter Try.func35, Try.ntmps35
  go_wp2_with (first
    | (go_at_call 50; (with_reducible refine (tm_there HT.out HP.out.inN.1 HP.out.inN.2).mono ?_); rintro e w' ⟨rfl, hw'⟩; have hw' := hw'.symm; subst hw')
    | (go_at_call 51; (with_reducible refine (tm_access HT.out HP.out).mono ?_); rintro e w1 ⟨⟨r, rfl⟩, hK, Ws, over, W, hT⟩; have HT1 := Aside0.mk hT; have HK1 := Aside0.mk hK; have h01 := hT.tk.tf.c0; clear hK hT)
    | (go_at_call 17; (with_reducible refine (HT1.out.tk.tf.fm.turn (List.perm_cons_erase HT1.out.mem) (x := v) (by rw [HT1.out.keys]; obtain ⟨l, e⟩ := HP.out.cons; rw [e]; exact List.mem_cons_self)).mono ?_); rintro e w2 ⟨⟨z, rfl⟩, hF, hK⟩; have HT2 := Aside0.mk ((HT1.out.tk.perm (List.perm_cons_erase HT1.out.mem)).turn (by rw [HT1.out.keys]; exact HP.out.path) hF hK); have HK2 := Aside0.mk (HK1.out.trans (Kt.ke hK)); clear hF hK))
  go_ret
  have h2 := HT2.out
  rw [HT1.out.keys] at h2
  exact ⟨rfl, ⟨⟨_, _, h2⟩, HT.out.ok.turn HP.out⟩, HK2.out⟩
end Go.Proofs.YtcnmbgijehnchaaW.Splay
/- The forest's other calls (contracts by hand). -/
namespace Go.Proofs.YtcnmbgijehnchaaW.Splay
open Go.RowKit Go.Shelf Go.Proofs.YtcnmbgijehnchaaW.PrintWords Go.Proofs.YtcnmbgijehnchaaW.PrintLast Go.Proofs.YtcnmbgijehnchaaW.PrintMore Go.Proofs.YtcnmbgijehnchaaW.Mine
attribute [local go_sem] max2_int min2_int max_two min_two max_three min_three max_four min_four Oper.semAt_some
section
variable {D : Ad} {w0 w w1 : World} {up val : Int → Int} {p q : List Int} {v u x y z d : Int} {Ws Vs : List (List (Int × Int))} {over : Int → Int} {W : List (Int × Int)}
/-- What the nodes of a way are worth behind an addition. -/
def shiftUp (val : Int → Int) (p : List Int) (d : Int) : Int → Int := fun y => if y ∈ p then val y + d else val y
theorem keysOf_map (W : List (Int × Int)) (Vs : List (List (Int × Int))) (d : Int) : keysOf ((W.map fun y => (y.1, y.2 + d)) :: Vs) = keysOf (W :: Vs) := by
  simp [keysOf, List.map_map, Function.comp_def]
theorem Tk.add (h : Tk D w0 w up val (W :: Vs) over) (hF : Fm w0 w1 D.gs D.gn D.N D.cap ((W.map fun y => (y.1, y.2 + d)) :: Vs)) (hK : Ke D.gs D.gn w w1) : Tk D w0 w1 up (shiftUp val (W.map Prod.fst) d) ((W.map fun y => (y.1, y.2 + d)) :: Vs) over := by
  refine ⟨h.tf.next hF hK, by rw [keysOf_map]; exact h.inv, fun V hV y hy => ?_⟩
  rcases List.mem_cons.1 hV with rfl | hV
  · obtain ⟨q, hq, rfl⟩ := List.mem_map.1 hy
    show q.2 + d = shiftUp val (W.map Prod.fst) d q.1
    unfold shiftUp
    rw [if_pos (List.mem_map.2 ⟨_, hq, rfl⟩), h.vals _ List.mem_cons_self q hq]
  · have hn := h.nod
    have e1 : keysOf (W :: Vs) = W.map Prod.fst :: keysOf Vs := rfl
    rw [e1] at hn
    have hy2 : y.1 ∉ W.map Prod.fst := flat_apart hn (V.map Prod.fst) (List.mem_map.2 ⟨V, hV, rfl⟩) _ (List.mem_map.2 ⟨y, hy, rfl⟩)
    unfold shiftUp
    rw [if_neg hy2]
    exact h.vals V (List.mem_cons_of_mem _ hV) y hy
theorem Tk.same (h : Tk D w0 w up val Ws over) (hF : Fm w0 w1 D.gs D.gn D.N D.cap Ws) (hK : Ke D.gs D.gn w w1) : Tk D w0 w1 up val Ws over := ⟨h.tf.next hF hK, h.inv, h.vals⟩
end
set_option maxHeartbeats 8000000 in
set_option maxRecDepth 100000 in
theorem tvalue_calls {D : Ad} {w0 w : World} {up val : Int → Int} {v : Int} (h : Tm D w0 w up val) (h0 : 0 ≤ v) (h1 : v < (D.N : Int)) :
    Calls Try.prog 39 #[.pointer (some ⟨D.gt, 0, none⟩), .int .i64 v] w fun e w' => e = .returned (.int .i64 (val v)) ∧ Tm D w0 w' up val ∧ Kt D w w' := by
  obtain ⟨⟨Ws, over, hT⟩, ho⟩ := h
  obtain ⟨W, hW, hv⟩ := hT.tf.fm.row_of h0 h1
  obtain ⟨⟨v2, u⟩, hy, hy2⟩ := List.mem_map.1 hv
  have hy2 : v2 = v := hy2
  subst hy2
  have hu : u = val v2 := hT.vals W hW _ hy
  subst hu
  have HT := Aside0.mk hT
  have HO := Aside0.mk ho
  have h00 := hT.tf.c0
  clear hT ho
  go_enter Try.func39, Try.ntmps39
  go_wp2_with (go_at_call 25; (with_reducible refine (HT.out.tf.fm.value hW hy).mono ?_); rintro e w1 ⟨rfl, hF, hK⟩; have HT1 := Aside0.mk (HT.out.same hF hK); have HK1 := Aside0.mk (Kt.ke hK); clear hF hK)
  go_ret
  exact ⟨rfl, ⟨⟨_, _, HT1.out⟩, HO.out⟩, HK1.out⟩
end Go.Proofs.YtcnmbgijehnchaaW.Splay
/- The forest's other calls (contracts by hand). -/
namespace Go.Proofs.YtcnmbgijehnchaaW.Splay
open Go.RowKit Go.Shelf Go.Proofs.YtcnmbgijehnchaaW.PrintWords Go.Proofs.YtcnmbgijehnchaaW.PrintLast Go.Proofs.YtcnmbgijehnchaaW.PrintMore Go.Proofs.YtcnmbgijehnchaaW.Mine
attribute [local go_sem] max2_int min2_int max_two min_two max_three min_three max_four min_four Oper.semAt_some
set_option maxHeartbeats 8000000 in
set_option maxRecDepth 100000 in
theorem tadd_calls {D : Ad} {w0 w : World} {up val : Int → Int} {p : List Int} {v d : Int} (h : Tm D w0 w up val) (hp : Way (D.N : Int) up v p) (hd : -9223372036854775808 ≤ d ∧ d ≤ 9223372036854775807) :
    Calls Try.prog 38 #[.pointer (some ⟨D.gt, 0, none⟩), .int .i64 v, .int .i64 d] w fun e w' => ((e = .returned (.int .i64 0) ∧ (∀ y ∈ p, -4611686018427387904 ≤ val y + d ∧ val y + d ≤ 4611686018427387904) ∧ Tm D w0 w' up (shiftUp val p d)) ∨
      (e = .returned (.int .i64 3) ∧ (∃ y ∈ p, ¬ (-4611686018427387904 ≤ val y + d ∧ val y + d ≤ 4611686018427387904)) ∧ Tm D w0 w' up val)) ∧ Kt D w w' := by
  have HT := Aside0.mk h
  have HP := Aside0.mk hp
  have HD := Aside0.mk hd
  clear h hp hd
  go_enter Try.func38, Try.ntmps38
  go_wp2_with (first
    | (go_at_call 50; (with_reducible refine (tm_there HT.out HP.out.inN.1 HP.out.inN.2).mono ?_); rintro e w' ⟨rfl, hw'⟩; have hw' := hw'.symm; subst hw')
    | (go_at_call 51; (with_reducible refine (tm_access HT.out HP.out).mono ?_); rintro e w1 ⟨⟨r, rfl⟩, hK, Ws, over, W, hT⟩; have HT1 := Aside0.mk hT; have HK1 := Aside0.mk hK; have h01 := hT.tk.tf.c0; clear hK hT)
    | (go_at_call 26; (with_reducible refine (HT1.out.tk.tf.fm.add (List.perm_cons_erase HT1.out.mem) (x := v) (by rw [HT1.out.keys]; obtain ⟨l, e⟩ := HP.out.cons; rw [e]; exact List.mem_cons_self) HD.out).mono ?_); rintro e w2 ⟨h2, hK⟩; have HE := Aside0.mk h2; have HK2 := Aside0.mk hK; obtain ⟨r2, rfl⟩ : ∃ r, e = .returned (.int .i64 r) := (by rcases h2 with ⟨h2, _⟩ | ⟨h2, _⟩ <;> exact ⟨_, h2⟩); clear h2 hK))
  go_ret
  have hT1 := HT1.out.tk.perm (List.perm_cons_erase HT1.out.mem)
  have hk := HT1.out.keys
  refine ⟨?_, HK1.out.trans (Kt.ke HK2.out)⟩
  rcases HE.out with ⟨e, hy, hF⟩ | ⟨e, ⟨y, hy, hy2⟩, hF⟩
  · have h2 := hT1.add hF HK2.out
    rw [hk] at h2
    cases e
    refine .inl ⟨rfl, fun y hy2 => ?_, ⟨⟨_, _, h2⟩, HT.out.ok⟩⟩
    rw [← hk] at hy2
    obtain ⟨q, hq, rfl⟩ := List.mem_map.1 hy2
    rw [← HT1.out.tk.vals W HT1.out.mem q hq]
    exact hy q hq
  · cases e
    refine .inr ⟨rfl, ⟨y.1, by rw [← hk]; exact List.mem_map.2 ⟨_, hy, rfl⟩, ?_⟩, ⟨⟨_, _, hT1.same hF HK2.out⟩, HT.out.ok⟩⟩
    rw [← HT1.out.tk.vals W HT1.out.mem y hy]
    exact hy2
end Go.Proofs.YtcnmbgijehnchaaW.Splay
/- The forest's Link (contracts by hand). -/
namespace Go.Proofs.YtcnmbgijehnchaaW.Splay
open Go.RowKit Go.Shelf Go.Proofs.YtcnmbgijehnchaaW.PrintWords Go.Proofs.YtcnmbgijehnchaaW.PrintLast Go.Proofs.YtcnmbgijehnchaaW.PrintMore Go.Proofs.YtcnmbgijehnchaaW.Mine
attribute [local go_sem] max2_int min2_int max_two min_two max_three min_three max_four min_four Oper.semAt_some
set_option maxHeartbeats 8000000 in
set_option maxRecDepth 100000 in
theorem link_calls {D : Ad} {w0 w : World} {up val : Int → Int} {a b : List Int} {v x r s : Int} (h : Tm D w0 w up val) (hp : Way (D.N : Int) up v (a ++ [r])) (hq : Way (D.N : Int) up x (b ++ [s])) :
    Calls Try.prog 30 #[.pointer (some ⟨D.gt, 0, none⟩), .int .i64 v, .int .i64 x] w fun e w' => ((r ≠ v ∧ e = .returned (.int .i64 9) ∧ Tm D w0 w' up val) ∨ (r = v ∧ s = v ∧ e = .returned (.int .i64 5) ∧ Tm D w0 w' up val) ∨ (r = v ∧ s ≠ v ∧ e = .returned (.int .i64 0) ∧ Tm D w0 w' (put up v x) val)) ∧ Kt D w w' := by
  have HT := Aside0.mk h
  have HP := Aside0.mk hp
  have HQ := Aside0.mk hq
  clear h hp hq
  by_cases c1 : r = v
  · subst c1
    have hrr : (r == r) = true := by simp
    by_cases c2 : s = r
    · subst c2
      go_enter Try.func30, Try.ntmps30
      go_wp2_with (first
        | (go_at_call 50; (with_reducible refine (tm_there HT.out HP.out.inN.1 HP.out.inN.2).mono ?_); rintro e w' ⟨rfl, hw'⟩; have hw' := hw'.symm; subst hw')
        | (go_at_call 50; (with_reducible refine (tm_there HT.out HQ.out.inN.1 HQ.out.inN.2).mono ?_); rintro e w' ⟨rfl, hw'⟩; have hw' := hw'.symm; subst hw')
        | (go_at_call 32; (with_reducible refine (root_calls HT.out HP.out).mono ?_); rintro e w1 ⟨rfl, hT, hK⟩; have HT1 := Aside0.mk hT; have HK1 := Aside0.mk hK; clear hK hT)
        | (go_at_call 32; (with_reducible refine (root_calls HT1.out HQ.out).mono ?_); rintro e w2 ⟨rfl, hT, hK⟩; have HT2 := Aside0.mk hT; have HK2 := Aside0.mk (HK1.out.trans hK); clear hK hT))
      go_ret
      exact ⟨.inr (.inl ⟨trivial, trivial, rfl, HT2.out⟩), HK2.out⟩
    · have hsr : (s == r) = false := beq_eq_false_iff_ne.mpr c2
      have ha : a = [] := by
        have h1 := HP.out.nodup
        obtain ⟨l, e⟩ := HP.out.cons
        cases a with
        | nil => rfl
        | cons y a =>
          rw [List.cons_append] at e h1
          have e1 : y = r := (List.cons.inj e).1
          rw [e1] at h1
          exact absurd (by simp) (List.nodup_cons.1 h1).1
      subst ha
      have HP : Aside0 (Way (D.N : Int) up r [r]) := ⟨HP.out⟩
      have HPP : Aside0 (Way (D.N : Int) up r ([] ++ [r])) := ⟨HP.out⟩
      obtain ⟨n, rfl⟩ := Int.eq_ofNat_of_zero_le HP.out.inN.1
      have hn : n < D.N := Int.ofNat_lt.1 HP.out.inN.2
      have hn2 : (n : Int) < (D.N : Int) := HP.out.inN.2
      have hn0 : (0 : Int) ≤ (n : Int) := Int.natCast_nonneg n
      have HC2 := Aside0.mk c2
      clear c2
      go_enter Try.func30, Try.ntmps30
      go_wp2_with (first
        | (go_at_call 50; (with_reducible refine (tm_there HT.out HP.out.inN.1 HP.out.inN.2).mono ?_); rintro e w' ⟨rfl, hw'⟩; have hw' := hw'.symm; subst hw')
        | (go_at_call 50; (with_reducible refine (tm_there HT.out HQ.out.inN.1 HQ.out.inN.2).mono ?_); rintro e w' ⟨rfl, hw'⟩; have hw' := hw'.symm; subst hw')
        | (go_at_call 32; (with_reducible refine (root_calls HT.out HPP.out).mono ?_); rintro e w1 ⟨rfl, hT, hK⟩; have HT1 := Aside0.mk hT; have HK1 := Aside0.mk hK; clear hK hT)
        | (go_at_call 32; (with_reducible refine (root_calls HT1.out HQ.out).mono ?_); rintro e w2 ⟨rfl, hT, hK⟩; have HT2 := Aside0.mk hT; have HK2 := Aside0.mk (HK1.out.trans hK); clear hK hT)
        | (go_at_call 51; (with_reducible refine (tm_access HT2.out HP.out).mono ?_); rintro e w3 ⟨⟨r3, rfl⟩, hK, Ws, over, W, hT⟩; have HT3 := Aside0.mk hT; have HK3 := Aside0.mk (HK2.out.trans hK); have h03 := hT.tk.tf.c0; have h13 := hT.tk.tf.c1; obtain ⟨hc3, hf3⟩ := hT.tk.tf.at_ hn; have HCO : (D.N : Int) ≤ (D.co : Int) := (by have h_ := hT.tk.tf.ne; omega); clear hK hT))
      go_ret
      obtain ⟨vv, eW⟩ := keys_one HT3.out.keys
      have h4 := (HT3.out.tk.perm (List.perm_cons_erase (eW ▸ HT3.out.mem))).link hn x
      refine ⟨.inr (.inr ⟨trivial, HC2.out, rfl, ⟨⟨_, _, h4.1⟩, HT.out.ok.link HP.out.root HQ.out (fun hv => ?_)⟩⟩), HK3.out.trans h4.2⟩
      obtain ⟨c, d, e⟩ := List.append_of_mem hv
      have h5 : Way (D.N : Int) up (n : Int) ((n : Int) :: d) := (e ▸ HQ.out).sub
      have h6 := h5.uniq HP.out
      rw [h6] at e
      have h7 := congrArg List.getLast? e
      simp at h7
      exact HC2.out h7
  · have hrr : (r == v) = false := beq_eq_false_iff_ne.mpr c1
    have HC1 := Aside0.mk c1
    clear c1
    go_enter Try.func30, Try.ntmps30
    go_wp2_with (first
      | (go_at_call 50; (with_reducible refine (tm_there HT.out HP.out.inN.1 HP.out.inN.2).mono ?_); rintro e w' ⟨rfl, hw'⟩; have hw' := hw'.symm; subst hw')
      | (go_at_call 50; (with_reducible refine (tm_there HT.out HQ.out.inN.1 HQ.out.inN.2).mono ?_); rintro e w' ⟨rfl, hw'⟩; have hw' := hw'.symm; subst hw')
      | (go_at_call 32; (with_reducible refine (root_calls HT.out HP.out).mono ?_); rintro e w1 ⟨rfl, hT, hK⟩; have HT1 := Aside0.mk hT; have HK1 := Aside0.mk hK; clear hK hT))
    go_ret
    exact ⟨.inl ⟨HC1.out, rfl, HT1.out⟩, HK1.out⟩
end Go.Proofs.YtcnmbgijehnchaaW.Splay
/- The forest's Least (contracts by hand). -/
namespace Go.Proofs.YtcnmbgijehnchaaW.Splay
open Go.RowKit Go.Shelf Go.Proofs.YtcnmbgijehnchaaW.PrintWords Go.Proofs.YtcnmbgijehnchaaW.PrintLast Go.Proofs.YtcnmbgijehnchaaW.PrintMore Go.Proofs.YtcnmbgijehnchaaW.Mine
attribute [local go_sem] max2_int min2_int max_two min_two max_three min_three max_four min_four Oper.semAt_some
set_option maxHeartbeats 8000000 in
set_option maxRecDepth 100000 in
theorem tleast_calls {D : Ad} {w0 w : World} {up val : Int → Int} {p : List Int} {v : Int} (h : Tm D w0 w up val) (hp : Way (D.N : Int) up v p) :
    Calls Try.prog 37 #[.pointer (some ⟨D.gt, 0, none⟩), .int .i64 v] w fun e w' => (∃ y, e = .returned (.int .i64 y) ∧ FirstLeast (p.reverse.map fun x => (x, val x)) y) ∧ Tm D w0 w' up val ∧ Kt D w w' := by
  have HT := Aside0.mk h
  have HP := Aside0.mk hp
  have HVR : Aside0 (∀ W : List (Int × Int), v ∈ W.map Prod.fst → v ∈ W.reverse.map Prod.fst) := ⟨fun W hv => by rw [List.map_reverse]; exact List.mem_reverse.2 hv⟩
  clear h hp
  go_enter Try.func37, Try.ntmps37
  go_wp2_with (first
    | (go_at_call 50; (with_reducible refine (tm_there HT.out HP.out.inN.1 HP.out.inN.2).mono ?_); rintro e w' ⟨rfl, hw'⟩; have hw' := hw'.symm; subst hw')
    | (go_at_call 51; (with_reducible refine (tm_access HT.out HP.out).mono ?_); rintro e w1 ⟨⟨r, rfl⟩, hK, Ws, over, W, hT⟩; have HT1 := Aside0.mk hT; have HK1 := Aside0.mk hK; have h01 := hT.tk.tf.c0; have HV : Aside0 (v ∈ W.map Prod.fst) := ⟨by rw [hT.keys]; obtain ⟨l, e⟩ := HP.out.cons; rw [e]; exact List.mem_cons_self⟩; clear hK hT)
    | (go_at_call 17; (with_reducible refine (HT1.out.tk.tf.fm.turn (List.perm_cons_erase HT1.out.mem) HV.out).mono ?_); rintro e w2 ⟨⟨z, rfl⟩, hF, hK⟩; have HT2 := Aside0.mk ((HT1.out.tk.tf.perm (List.perm_cons_erase HT1.out.mem)).next hF hK); have HK2 := Aside0.mk (HK1.out.trans (Kt.ke hK)); have h02 := HT2.out.c0; clear hF hK)
    | (go_at_call 16; (with_reducible refine (HT2.out.fm.least List.mem_cons_self (HVR.out W HV.out)).mono ?_); rintro e w3 ⟨⟨y, rfl, hy⟩, hF, hK⟩; have HY := Aside0.mk hy; have HT3 := Aside0.mk (HT2.out.next hF hK); have HK3 := Aside0.mk (HK2.out.trans (Kt.ke hK)); have h03 := HT3.out.c0; clear hy hF hK)
    | (go_at_call 17; (with_reducible refine (HT3.out.fm.turn (List.Perm.refl _) (HVR.out W HV.out)).mono ?_); rintro e w4 ⟨⟨z4, rfl⟩, hF, hK⟩; rw [List.reverse_reverse] at hF; have HT4 := Aside0.mk (HT3.out.next hF hK); have HK4 := Aside0.mk (HK3.out.trans (Kt.ke hK)); clear hF hK))
  go_ret
  have h1 := HT1.out.tk.perm (List.perm_cons_erase HT1.out.mem)
  refine ⟨⟨_, rfl, ?_⟩, ⟨⟨_, _, ⟨HT4.out, h1.inv, h1.vals⟩⟩, HT.out.ok⟩, HK4.out⟩
  have hW : (p.reverse.map fun x => (x, val x)) = W.reverse := by
    rw [← HT1.out.keys, ← List.map_reverse, List.map_map]
    conv => rhs; rw [← List.map_id W.reverse]
    refine List.map_congr_left fun q hq => ?_
    have h2 := HT1.out.tk.vals W HT1.out.mem q (List.mem_reverse.1 hq)
    show (q.1, val q.1) = q
    rw [← h2]
  rw [hW]
  exact HY.out
end Go.Proofs.YtcnmbgijehnchaaW.Splay
/- The forest's Path (contract by hand; the library's Reverse off the shelf). -/
namespace Go.Proofs
open Go.Shelf
shelf_lay Lays.n112 Nm 112 at Try as Try.laysRev
end Go.Proofs
namespace Go.Proofs.YtcnmbgijehnchaaW.Splay
open Go.RowKit Go.Shelf Go.Proofs.YtcnmbgijehnchaaW.PrintWords Go.Proofs.YtcnmbgijehnchaaW.PrintLast Go.Proofs.YtcnmbgijehnchaaW.PrintMore Go.Proofs.YtcnmbgijehnchaaW.Mine
attribute [local go_sem] max2_int min2_int max_two min_two max_three min_three max_four min_four Oper.semAt_some
theorem own_cells {w : World} {base e n : Nat} {u : Value} {xs : List Int} (h : w.ownsRow base e 1 u n (ints xs)) (hn : 0 < n) : ∃ g c cur, u = .slice (some ⟨g, 0, none⟩) n c ∧ n ≤ c ∧ c ≤ maxLen ∧ base ≤ g ∧ xs.length = n ∧ RowC w g xs ∧ w.heap[g]? = some (.cells cur e (0, 0)) := by
  obtain ⟨g, c, rfl, h1, h2, h3, h4, h5⟩ := own_row h hn
  rcases h.2 with ⟨e, _⟩ | ⟨g2, c2, cur, e, _, hc, _⟩
  · cases e
  · injection e with e1 e2 e3
    injection e1 with e1
    injection e1 with e1
    subst e1
    exact ⟨_, c, cur, rfl, h1, h2, h3, h4, h5, hc⟩
/-- slices.Reverse at a row of cells. -/
theorem rev_calls {w : World} {g e c : Nat} {xs : List Int} {cur : Array Value} (hr : RowC w g xs) (hc : w.heap[g]? = some (.cells cur e (0, 0))) (hl : xs.length ≤ 1000000) :
    Calls Try.prog 52 #[.slice (some ⟨g, 0, none⟩) xs.length c] w fun e w' => e = .returned (.tuple #[]) ∧ RowC w' g xs.reverse ∧ ∀ B : Nat, B ≤ g → Below B w w' := by
  have h := Any.slices_Reverse_int_cells Try.laysRev g 0 xs.length c xs w (Nat.le_refl _) (by omega) (fun j hj => by
    rw [Nat.zero_add, hr.at_ j hj, List.getD_eq_getElem?_getD, List.getElem?_eq_getElem hj]
    rfl) (fun j _ => blk_frozen hc _)
  refine h.mono ?_
  rintro e w' ⟨he, q, rfl⟩
  rw [List.take_length]
  have h1 : RowC (w.drewN q) g xs := ⟨hr.lt, fun j hj => hr.at_ j hj⟩
  refine ⟨he, ⟨?_, fun j hj => ?_⟩, fun B hB => ?_⟩
  · rw [(setCells_same _ _ _ _).2.2.2]
    exact h1.lt
  · have hj2 : j < (xs.reverse.map (Value.int .i64)).length := by rw [List.length_map]; exact hj
    have h2 := World.cell?_setCells_in g (xs.reverse.map (Value.int .i64)) 0 (w.drewN q) (fun i hi => by
      rw [List.length_map, List.length_reverse] at hi
      rw [Nat.zero_add, h1.at_ i hi]
      rfl) j hj2
    rw [Nat.zero_add] at h2
    rw [h2, List.getElem_map]
  · have h3 := setCells_same g (xs.reverse.map (Value.int .i64)) 0 (w.drewN q)
    exact ⟨h3.1, h3.2.1, h3.2.2.1, Nat.le_of_eq h3.2.2.2.symm, fun k hk => setCells_far _ _ k (by omega)⟩
set_option maxHeartbeats 8000000 in
set_option maxRecDepth 100000 in
theorem path_calls {D : Ad} {w0 w : World} {up val : Int → Int} {p : List Int} {v : Int} (h : Tm D w0 w up val) (hp : Way (D.N : Int) up v p) :
    Calls Try.prog 34 #[.pointer (some ⟨D.gt, 0, none⟩), .int .i64 v] w fun e w' => ∃ g c, e = .returned (.slice (some ⟨g, 0, none⟩) p.length c) ∧ p.length ≤ c ∧ c ≤ maxLen ∧ w.heap.size ≤ g ∧ RowC w' g p.reverse ∧ Tm D w0 w' up val ∧ Kt D w w' := by
  have HT := Aside0.mk h
  have HP := Aside0.mk hp
  clear h hp
  go_enter Try.func34, Try.ntmps34
  go_wp2_with (first
    | (go_at_call 50; (with_reducible refine (tm_there HT.out HP.out.inN.1 HP.out.inN.2).mono ?_); rintro e w' ⟨rfl, hw'⟩; have hw' := hw'.symm; subst hw')
    | (go_at_call 51; (with_reducible refine (tm_access HT.out HP.out).mono ?_); rintro e w1 ⟨⟨r, rfl⟩, hK, Ws, over, W, hT⟩; have HT1 := Aside0.mk hT; have HK1 := Aside0.mk hK; have h01 := hT.tk.tf.c0; have HV : Aside0 (v ∈ W.map Prod.fst) := ⟨by rw [hT.keys]; obtain ⟨l, e⟩ := HP.out.cons; rw [e]; exact List.mem_cons_self⟩; have HL : Aside0 (W.length = p.length ∧ 0 < p.length) := ⟨by rw [← hT.keys, List.length_map], by rw [← hT.keys, List.length_map]; exact List.length_pos_iff.2 (hT.tk.tf.fm.ne hT.mem)⟩; clear hK hT)
    | (go_at_call 20; (with_reducible refine (HT1.out.tk.tf.fm.row HT1.out.mem HV.out).mono ?_); rintro e w2 ⟨u, rfl, ho, hF, hb⟩; rw [HT1.out.keys, HL.out.1] at ho; obtain ⟨g, c, cur, rfl, hc1, hc2, hg, hlp, hrow, hcur⟩ := own_cells ho HL.out.2; have HC := Aside0.mk (And.intro hc1 hc2); have HG := Aside0.mk hg; have HROW := Aside0.mk hrow; have HCUR := Aside0.mk hcur; have HB2 := Aside0.mk hb; have HT2 := Aside0.mk (HT1.out.call hF (Ke.below hb)); clear ho hF hb hc1 hc2 hg hlp hrow hcur)
    | (go_at_call 52; (with_reducible refine (rev_calls HROW.out HCUR.out (by have h_ := HT1.out.tk.tf.fm.rlen HT1.out.mem; have h2_ := HL.out; have h3_ := HT1.out.tk.tf.small; omega)).mono ?_); rintro e w3 ⟨rfl, hrow3, hb3⟩; have HROW3 := Aside0.mk hrow3; have HB3 := Aside0.mk (hb3 _ HG.out); clear hrow3 hb3))
  go_ret
  have hb : Below w1.heap.size w1 w3 := HB2.out.trans HB3.out
  exact ⟨g, c, rfl, HC.out.1, HC.out.2, Nat.le_trans HK1.out.size HG.out, HROW3.out, (HT1.out.tm HT.out.ok).below hb, HK1.out.trans (Kt.below hb)⟩
end Go.Proofs.YtcnmbgijehnchaaW.Splay
/- The forest laws' own small functions: pick, same. -/
namespace Go.Proofs.YtcnmbgijehnchaaW.Splay
open Go.RowKit Go.Shelf Go.Proofs.YtcnmbgijehnchaaW.PrintWords Go.Proofs.YtcnmbgijehnchaaW.PrintLast Go.Proofs.YtcnmbgijehnchaaW.PrintMore Go.Proofs.YtcnmbgijehnchaaW.Mine
attribute [local go_sem] max2_int min2_int max_two min_two max_three min_three max_four min_four Oper.semAt_some
theorem pick10_calls (w : World) {c n : Int} (h0 : -9223372036854775808 ≤ c) (h1 : c ≤ 9223372036854775807) (hn : 0 < n) :
    Calls Try.prog 29 #[.int .i64 c, .int .i64 n] w fun e w' => e = .returned (.int .i64 (pk c n)) ∧ w' = w := by
  have n0 : (n == 0) = false := by simp; omega
  unfold pk
  by_cases c3 : c < 0
  · have e1 : wrap64 (c + 1) = c + 1 := by unfold wrap64; omega
    have e2 : wrap64 (-(c + 1)) = -(c + 1) := by unfold wrap64; omega
    rw [if_pos c3]
    go_enter Try.func29, Try.ntmps29
    go_wp2
    go_ret
    exact ⟨congrArg (fun z => Ending.returned (.int .i64 z)) (show -((c + 1).tmod n) = _ from (Int.neg_tmod ..).symm), rfl⟩
  · rw [if_neg c3]
    have c4 : decide (c < 0) = false := decide_eq_false c3
    go_enter Try.func29, Try.ntmps29
    go_wp2
    go_ret
    exact ⟨congrArg (fun z => Ending.returned (.int .i64 z)) (show c % n = _ from (Int.tmod_eq_emod_of_nonneg (by omega)).symm), rfl⟩
set_option maxHeartbeats 8000000 in
set_option maxRecDepth 100000 in
theorem same10_calls {w : World} {A B : Option Addr} {xs ys : List Int} {c d : Nat} (ha : Rds w A xs) (hb : Rds w B ys) (hl : xs.length ≤ 1000000) (hl2 : ys.length ≤ 1000000) :
    Calls Try.prog 36 #[.slice A xs.length c, .slice B ys.length d] w fun e w' => e = .returned (.bool (decide (xs = ys))) ∧ Drawn0 w w' := by
  have HA := Aside0.mk ha
  have HB := Aside0.mk hb
  clear ha hb
  by_cases c3 : xs.length = ys.length
  · have c3b : ((xs.length : Int) != (ys.length : Int)) = false := bne_eq_false_iff_eq.mpr (by omega)
    go_enter Try.func36, Try.ntmps36
    go_wp2
    repeat (go_quiet (fail); try go_wp2)
    go_loopg [5] (xs.length + 1) (fun kq v5 wr => ∃ (j : Nat), v5 = .int .i64 (j : Int) ∧ Aside0 (j + kq = xs.length + 1 ∧ 0 < kq) ∧ Aside0 (xs.take j = ys.take j) ∧ Drawn0 w wr)
    case atStart => exact ⟨0, rfl, ⟨by omega⟩, ⟨by simp⟩, by repeat (first | exact Drawn0.refl _ | apply Drawn0.step)⟩
    case round =>
      obtain ⟨j, rfl, HK, HE, ⟨m1, rfl⟩⟩ := hrel
      by_cases c1 : j < xs.length
      · have hlt : (j : Int) < (xs.length : Int) := by omega
        have hlt2 : (j : Int) < (ys.length : Int) := by omega
        have c2 : j < ys.length := by omega
        have j0 : (0 : Int) ≤ (j : Int) := Int.natCast_nonneg j
        obtain ⟨a, rfl, hca⟩ := HA.out.at c1
        obtain ⟨b, rfl, hcb⟩ := HB.out.at c2
        obtain ⟨u, hu⟩ : ∃ u, xs[j] = u := ⟨_, rfl⟩
        obtain ⟨z, hz⟩ : ∃ z, ys[j] = z := ⟨_, rfl⟩
        rw [hu] at hca
        rw [hz] at hcb
        have HU := Aside0.mk hu
        have HZ := Aside0.mk hz
        clear hu hz
        by_cases c5 : u = z
        · have c5b : (u != z) = false := bne_eq_false_iff_eq.mpr c5
          go_wp2
          repeat (go_quiet (fail); try go_wp2)
          go_roundg (xs.length - j)
          case measure => have h_ := HK.out; omega
          case rel =>
            have h_ : wrap64 ((j : Int) + 1) = (j : Int) + 1 := by unfold wrap64; omega
            refine ⟨j + 1, by first | rw [h_]; rfl | rfl, ⟨by omega⟩, ⟨?_⟩, by repeat (first | exact Drawn0.refl _ | apply Drawn0.step)⟩
            rw [List.take_add_one, List.take_add_one, HE.out, List.getElem?_eq_getElem c1, List.getElem?_eq_getElem c2, HU.out, HZ.out, c5]
        · have c5b : (u != z) = true := bne_iff_ne.mpr c5
          have e_ : decide (xs = ys) = false := decide_eq_false (fun e => c5 (by
            have h1_ := HU.out
            have h2_ := HZ.out
            subst e
            exact h1_.symm.trans h2_))
          go_wp2
          repeat (go_quiet (fail); try go_wp2)
          go_ret
          exact ⟨by rw [e_]; rfl, by repeat (first | exact Drawn0.refl _ | apply Drawn0.step)⟩
      · have e1 : j = xs.length := by have h_ := HK.out; omega
        have hge : (xs.length : Int) ≤ (j : Int) := by omega
        have hge2 : decide ((j : Int) < (xs.length : Int)) = false := decide_eq_false (by omega)
        have e_ : decide (xs = ys) = true := decide_eq_true (by
          have h_ := HE.out
          rw [e1, List.take_length, c3, List.take_length] at h_
          exact h_)
        go_wp2
        repeat (go_quiet (fail); try go_wp2)
        go_ret
        exact ⟨by rw [e_]; rfl, by repeat (first | exact Drawn0.refl _ | apply Drawn0.step)⟩
  · have c3b : ((xs.length : Int) != (ys.length : Int)) = true := bne_iff_ne.mpr (by omega)
    have c3b2 : (xs.length == ys.length) = false := by simp [c3]
    have e_ : decide (xs = ys) = false := decide_eq_false (fun e => c3 (by rw [e]))
    rw [e_]
    go_enter Try.func36, Try.ntmps36
    go_wp2
    repeat (go_quiet (fail); try go_wp2)
    go_ret
    exact ⟨rfl, by repeat (first | exact Drawn0.refl _ | apply Drawn0.step)⟩
theorem same10_n {w : World} {xs : List Int} {A B : Option Addr} {ys : List Int} {c d n m : Nat} (hn : xs.length = n) (hm : ys.length = m) (ha : Rds w A xs) (hb : Rds w B ys) (hl : n ≤ 1000000) (hl2 : m ≤ 1000000) :
    Calls Try.prog 36 #[.slice A n c, .slice B m d] w fun e w' => e = .returned (.bool (decide (xs = ys))) ∧ Drawn0 w w' := by
  subst hn hm
  exact same10_calls ha hb hl hl2
end Go.Proofs.YtcnmbgijehnchaaW.Splay
/- slices.Repeat at a row of one number; a new forest. -/
namespace Go.Proofs
open Go.Shelf
shelf_lay Lays.n212 Nm 212 at Try as Try.laysMul
end Go.Proofs
namespace Go.Proofs.YtcnmbgijehnchaaW.Splay
open Go.RowKit Go.Shelf Go.Proofs.YtcnmbgijehnchaaW.PrintWords Go.Proofs.YtcnmbgijehnchaaW.PrintLast Go.Proofs.YtcnmbgijehnchaaW.PrintMore Go.Proofs.YtcnmbgijehnchaaW.Mine
attribute [local go_sem] max2_int min2_int max_two min_two max_three min_three max_four min_four Oper.semAt_some
/-- A row of n cells of which the first j hold u. -/
def Full (w : World) (g n j : Nat) (u : Int) : Prop := ∃ cs, w.heap[g]? = some (.cells cs 3 (0, 0)) ∧ cs.size = n ∧ ∀ i, i < j → cs[i]? = some (.int .i64 u)
theorem Full.set {w : World} {g n j : Nat} {u : Int} (h : Full w g n j u) (m : Nat) (hm : j + m ≤ n) : Full (w.setCells g j (List.replicate m (.int .i64 u))) g n (j + m) u ∧ ∀ B : Nat, B ≤ g → Below B w (w.setCells g j (List.replicate m (.int .i64 u))) := by
  obtain ⟨cs, h1, h2, h3⟩ := h
  obtain ⟨cs', k1, k2, k3⟩ := setCells_row (List.replicate m (.int .i64 u)) j w cs h1 (by rw [List.length_replicate]; omega)
  refine ⟨⟨cs', k1, by rw [k2, h2], fun i hi => ?_⟩, fun B hB => ?_⟩
  · rw [← Array.getElem?_toList, k3]
    by_cases c : i < j
    · rw [List.getElem?_append_left (by simp; omega), List.getElem?_append_left (by simp; omega), List.getElem?_take, if_pos c, Array.getElem?_toList]
      exact h3 i c
    · rw [List.getElem?_append_left (by simp; omega), List.getElem?_append_right (by simp; omega), List.getElem?_replicate, if_pos (by simp; omega)]
  · have h3 := setCells_same g (List.replicate m (.int .i64 u)) j w
    exact ⟨h3.1, h3.2.1, h3.2.2.1, Nat.le_of_eq h3.2.2.2.symm, fun k hk => setCells_far _ _ k (by omega)⟩
theorem mul_one (w : World) (n : Nat) (hn : n ≤ 3000) : Calls Try.prog 58 #[.int .u64 1, .int .u64 (n : Int)] w fun e w' => e = .returned (.tuple #[.int .u64 0, .int .u64 (n : Int)]) ∧ w' = w := by
  have h := Any.bits_Mul Try.laysMul 1 n (by omega) (by omega) w
  have hd1 : (1 * n / 18446744073709551616 : Nat) = 0 := by omega
  have hd2 : (1 * n % 18446744073709551616 : Nat) = n := by omega
  rw [hd1, hd2] at h
  exact h
theorem info_rep : (Try.prog.info? 3).map (fun i => (i.zero, i.size, i.bytes)) = some (some (.int .i64 0), 1, 8) := by kernel_rfl
theorem info_int1 : (Try.prog.info? 3).map (·.size) = some 1 := by kernel_rfl
theorem make_ints (n : Nat) (hn : n ≤ 1000000) (W : World) : (Instr.makeSlice 22 (.int .i64 (n : Int)) (.int .i64 (n : Int))).run Try.prog W = .ok (.slice (some ⟨W.heap.size, 0, none⟩) n n) (W.alloc (.cells (madeCells #[.int .i64 0] n) 3)) := by
  obtain ⟨i0, hi, hz0, hz1, hz2⟩ := info_parts info_rep
  have hr := run_make (P := Try.prog) W 22 3 i0 (.int .i64 0) Try.underlying22 hi hz0 .i64 .i64 (n : Int) (n : Int) (by omega) (by omega) (by rw [hz2]; omega) (by omega)
  simp only [Int.toNat_natCast] at hr
  rw [hz1, Nat.mul_one] at hr
  exact hr
theorem Full.copy {w : World} {g n j a o sl : Nat} {u : Int} (h : Full w g n j u) (m : Nat) (hs : ∀ i, i < m → w.cell? ⟨a, o + i, none⟩ = some (.int .i64 u)) (hj : j + m ≤ n) (hm : m = Nat.min sl (n - j)) (ty : TypeId) (dc sc : Nat) :
    (Builtin.copy_ #[22, 22] ty #[.slice (some ⟨g, j, none⟩) (n - j) dc, .slice (some ⟨a, o, none⟩) sl sc]).run Try.prog w = .ok (goInt m) (w.setCells g j (List.replicate m (.int .i64 u))) := by
  obtain ⟨cs, h1, h2, h3⟩ := h
  have h := run_copy_cells (P := Try.prog) w 22 22 ty 3 g j (n - j) dc ⟨a, o, none⟩ sl sc (List.replicate m (.int .i64 u)) (Try.underlying22) info_int1 (by rw [List.length_replicate]; exact hm) (fun i v hi => by
      rw [List.getElem?_replicate] at hi
      split at hi
      · rename_i hi2
        cases hi
        rw [Addr.add_lit]
        exact hs i hi2
      · cases hi) (fun i hi => by
      rw [List.length_replicate] at hi
      rw [show w.cell? ⟨g, j + i, none⟩ = cs[j + i]? from blk_cell h1 (j + i), Array.getElem?_eq_getElem (by omega)]
      rfl) (fun i _ => blk_frozen h1 _) (fun v hv => by rw [(List.mem_replicate.1 hv).2]; rfl)
  rw [List.length_replicate] at h
  exact h
set_option maxHeartbeats 8000000 in
set_option maxRecDepth 100000 in
theorem repeat_calls {w : World} {b n c : Nat} {u : Int} (hc : w.cell? ⟨b, 0, none⟩ = some (.int .i64 u)) (h0 : 0 < n) (h1 : n ≤ 3000) :
    Calls Try.prog 49 #[.slice (some ⟨b, 0, none⟩) 1 c, .int .i64 n] w fun e w' => ∃ g, e = .returned (.slice (some ⟨g, 0, none⟩) n n) ∧ w.heap.size ≤ g ∧ Below w.heap.size w w' ∧ Full w' g n n u := by
  have hF0 : Full (w.alloc (.cells (madeCells #[.int .i64 0] n) 3)) w.heap.size n 0 u := ⟨_, blk_new w _, size_madeCells _ _, fun i hi => absurd hi (Nat.not_lt_zero i)⟩
  have hb : b < w.heap.size := block_lt_of_cell hc
  have hmin : (1 : Nat) = Nat.min 1 (n - 0) := by show 1 = min 1 (n - 0); omega
  have hcp : ∀ ty, (Builtin.copy_ #[22, 22] ty #[.slice (some ⟨w.heap.size, 0, none⟩) n n, .slice (some ⟨b, 0, none⟩) 1 c]).run Try.prog (w.alloc (.cells (madeCells #[.int .i64 0] n) 3)) = .ok (goInt 1) ((w.alloc (.cells (madeCells #[.int .i64 0] n) 3)).setCells w.heap.size 0 (List.replicate 1 (.int .i64 u))) := fun ty => by
    have h_ := hF0.copy (a := b) (o := 0) (sl := 1) 1 (fun i hi => by
      obtain rfl : i = 0 := by omega
      refine (cell_of_heap ?_).trans hc
      exact (below_alloc (Below.refl _ _) _).block b hb) (by omega) hmin ty n c
    rwa [Nat.sub_zero] at h_
  obtain ⟨W1, hW1⟩ : ∃ W1, (w.alloc (.cells (madeCells #[.int .i64 0] n) 3)).setCells w.heap.size 0 (List.replicate 1 (.int .i64 u)) = W1 := ⟨_, rfl⟩
  have hF1 := hF0.set 1 (by omega)
  rw [hW1] at hcp hF1
  have HF1 : Aside0 (Full W1 w.heap.size n 1 u) := ⟨hF1.1⟩
  have HB1 : Aside0 (Below w.heap.size w W1) := ⟨(below_alloc (Below.refl _ _) _).trans (hF1.2 _ (Nat.le_refl _))⟩
  have hmk := make_ints n (by omega)
  have HN := Aside0.mk (And.intro h0 h1)
  have hn0 : (0 : Int) ≤ (n : Int) := Int.natCast_nonneg n
  have hn1 : ((n : Int) < 0) = False := eq_false (by omega)
  have hn2 : ((n : Int) > 9223372036854775807) = False := eq_false (by omega)
  have hwi : IntKind.i64.wrap (n : Int) = (n : Int) := by rw [IntKind.wrap_i64]; omega
  have hw : IntKind.u64.wrap (n : Int) = (n : Int) := by rw [IntKind.wrap_u64]; omega
  clear h0 h1 hc hF0 hF1 hW1 hmin hb
  go_enter Try.func49, Try.ntmps49
  go_wp2_with (first
    | (go_at_call 58; (with_reducible refine (mul_one _ n HN.out.2).mono ?_); rintro e w' ⟨rfl, hw'⟩; have hw' := hw'.symm; subst hw')
    | (at_builtin; refine wpList_copy_runI _ rfl _ _ 22 22 rfl _ _ rfl rfl (hcp _) ?_))
  go_loopg [8] (n + 1) (fun kq v8 wr => ∃ (j : Nat), v8 = .int .i64 (j : Int) ∧ Aside0 (j + kq = n + 2 ∧ 1 < kq ∧ 1 ≤ j) ∧ Aside0 (Full wr w.heap.size n j u) ∧ Aside0 (Below w.heap.size w wr))
  case atStart => exact ⟨1, rfl, ⟨by have h_ := HN.out; omega⟩, HF1, HB1⟩
  case round =>
    clear HF1 HB1 hcp hmk
    obtain ⟨j, rfl, HK, HF, HB⟩ := hrel
    by_cases c1 : j < n
    · have hlt : ((j : Int) < (n : Int)) = True := eq_true (by omega)
      have hle : (j : Int) ≤ (n : Int) := by omega
      have j0 : (0 : Int) ≤ (j : Int) := Int.natCast_nonneg j
      obtain ⟨m, hm⟩ : ∃ m, Nat.min j (n - j) = m := ⟨_, rfl⟩
      have hm2 : min j (n - j) = m := hm
      have HM : Aside0 (j + m ≤ n ∧ 1 ≤ m) := ⟨by have h_ := HK.out; omega⟩
      have hcpr : ∀ W : World, W.heap = wr.heap → ∀ (ty : TypeId) (dc sc : Nat), (Builtin.copy_ #[22, 22] ty #[.slice (some ⟨w.heap.size, j, none⟩) (n - j) dc, .slice (some ⟨w.heap.size, 0, none⟩) j sc]).run Try.prog W = .ok (goInt m) (W.setCells w.heap.size j (List.replicate m (.int .i64 u))) := fun W hW ty dc sc => by
        have hFW : Full W w.heap.size n j u := by
          obtain ⟨cs, k1, k2⟩ := HF.out
          exact ⟨cs, by rw [hW]; exact k1, k2⟩
        obtain ⟨cs, k1, k2, k3⟩ := hFW
        exact Full.copy ⟨cs, k1, k2, k3⟩ m (fun i hi => by
          rw [Nat.zero_add]
          exact (blk_cell k1 i).trans (k3 i (by omega))) HM.out.1 hm.symm ty dc sc
      have hnj : (n = j) = False := eq_false (by omega)
      have mixed : Try.prog.follows Departure.mixedOrders = true := by kernel_rfl
      clear hm hm2
      go_wp2
      go_region_law_o (refine step_copy_runI rfl _ _ 22 22 rfl (.slice (some ⟨w.heap.size, j, none⟩) (n - j) (n - j)) (.slice (some ⟨w.heap.size, 0, none⟩) j n) (by simp [Act.eval, Act.put]) (by simp [Act.eval, Act.put]) (hcpr wr.drew rfl 3 (n - j) n) ?_)
      go_wp2
      go_roundg (n + 2 - (j + m))
      case measure => have h_ := HK.out; have h2_ := HM.out; omega
      case rel =>
        have h_ := HK.out
        have h2_ := HM.out
        have hs := Full.set (w := wr.drew) (u := u) (j := j) (n := n) (g := w.heap.size) HF.out m h2_.1
        refine ⟨j + m, ?_, ⟨by omega⟩, ⟨hs.1⟩, ⟨(below_drew HB.out).trans (hs.2 _ (Nat.le_refl _))⟩⟩
        have h3_ := HN.out
        exact congrArg (Value.int .i64) (by rw [IntKind.wrap_i64]; omega)
    · have hlt : ((j : Int) < (n : Int)) = False := eq_false (by omega)
      have hjn : j = n := by have h_ := HK.out; omega
      subst hjn
      go_wp2
      go_ret
      exact ⟨_, rfl, Nat.le_refl _, HB.out, HF.out⟩
end Go.Proofs.YtcnmbgijehnchaaW.Splay
/- A new forest (contract by hand). -/
namespace Go.Proofs.YtcnmbgijehnchaaW.Splay
open Go.RowKit Go.Shelf Go.Proofs.YtcnmbgijehnchaaW.PrintWords Go.Proofs.YtcnmbgijehnchaaW.PrintLast Go.Proofs.YtcnmbgijehnchaaW.PrintMore Go.Proofs.YtcnmbgijehnchaaW.Mine
attribute [local go_sem] max2_int min2_int max_two min_two max_three min_three max_four min_four Oper.semAt_some
/-- Nobody is above anybody. -/
def bare : Int → Int := fun _ => -1
/-- What each node is worth at first. -/
def worth (vs : List Int) : Int → Int := fun x => vs.getD x.toNat 0
theorem bare_fiv (vs : List Int) : Fiv bare bare (keysOf (ones vs)) := by
  have h1 : ∀ K ∈ keysOf (ones vs), ∃ x, K = [x] := fun K hK => by
    obtain ⟨W, hW, rfl⟩ := List.mem_map.1 hK
    obtain ⟨i, _, rfl⟩ := List.mem_map.1 hW
    exact ⟨_, rfl⟩
  refine ⟨fun K hK => ?_, fun K hK L z e => rfl, fun K hK L y M e hM => rfl⟩
  obtain ⟨x, rfl⟩ := h1 K hK
  trivial
theorem bare_ok (N : Int) : Ok N bare := fun v h0 h1 => ⟨[v], Way.mk_root h0 h1 rfl⟩
theorem ones_worth (vs : List Int) : ∀ W ∈ ones vs, ∀ y ∈ W, y.2 = worth vs y.1 := fun W hW y hy => by
  obtain ⟨i, _, rfl⟩ := List.mem_map.1 hW
  rw [List.mem_singleton.1 hy]
  rfl
theorem new_tm {w0 w1 w3 : World} {gs gn go n cap : Nat} {vs : List Int} (hF : Fm w0 w1 gs gn n cap (ones vs)) (hb : Below w1.heap.size w1 w3) (hg : w1.heap.size ≤ go) (hO : Full w3 go n n (-1)) :
    Tm ⟨w3.heap.size, gs, gn, go, n, cap, n⟩ w0 (w3.alloc (.cells #[.pointer (some ⟨gs, 0, none⟩), .slice (some ⟨go, 0, none⟩) n n, .int .i64 (n : Int)] 71)) bare (worth vs) := by
  obtain ⟨cs, k1, k2, k3⟩ := hO
  have hk := hF.ke
  have ho := hF.old.size
  have hs := hb.size
  have hgo : go < w3.heap.size := (Array.getElem?_eq_some_iff.1 k1).1
  refine ⟨⟨ones vs, bare, ⟨?_, blk_new _ _, ⟨cs, blk_alloc k1 _, fun j hj => k3 j hj⟩, ?_⟩, bare_fiv vs, ones_worth vs⟩, bare_ok _⟩
  · exact (hF.below hb).below (below_alloc (Below.refl _ _) _)
  · show w3.heap.size ≠ gs ∧ w3.heap.size ≠ gn ∧ go ≠ gs ∧ go ≠ gn ∧ w3.heap.size ≠ go ∧ w0.heap.size ≤ w3.heap.size ∧ w0.heap.size ≤ go ∧ n ≤ n
    omega
set_option maxHeartbeats 8000000 in
set_option maxRecDepth 100000 in
theorem tnew_calls {w0 w : World} {A : Option Addr} {vs : List Int} {n c : Nat} (hn : vs.length = n) (hb : Below w0.heap.size w0 w) (hr : Rds w A vs) (h1 : n ≤ 3000) (h0 : 0 < n) (hv : ∀ v ∈ vs, -4611686018427387904 ≤ v ∧ v ≤ 4611686018427387904) :
    Calls Try.prog 28 #[.slice A n c] w fun e w' => ∃ D : Ad, e = .returned (.tuple #[.pointer (some ⟨D.gt, 0, none⟩), .int .i64 0]) ∧ D.N = n ∧ w.heap.size ≤ D.gt ∧ w.heap.size ≤ D.gs ∧ w.heap.size ≤ D.gn ∧ w.heap.size ≤ D.go ∧ Below w.heap.size w w' ∧ Tm D w0 w' bare (worth vs) := by
  have HN := Aside0.mk (And.intro h0 h1)
  have HV := Aside0.mk hv
  have HR := Aside0.mk hr
  have HB := Aside0.mk hb
  have HL := Aside0.mk hn
  clear h0 h1 hv hr hb hn
  go_enter Try.func28, Try.ntmps28
  go_wp2_with (first
    | (go_at_call 14; (with_reducible refine (Fm.newn HL.out HB.out HR.out HN.out.2 HN.out.1 HV.out).mono ?_); rintro e w1 ⟨rfl, hB, gn, cap, hgn, hF⟩; have HB1 := Aside0.mk hB; have HF1 := Aside0.mk hF; have HG := Aside0.mk hgn; clear hB hF hgn)
    | (go_at_call 49; (refine (repeat_calls (u := -1) (by exact (blk_cell (blk_new _ _) 0).trans rfl) HN.out.1 HN.out.2).mono ?_); rintro e w3 ⟨g, rfl, hg, hB3, hO⟩; have HB3 := Aside0.mk hB3; have HO := Aside0.mk hO; have HGO := Aside0.mk hg; clear hB3 hO hg))
  go_ret2
  have hg := HGO.out
  have h3 := HB3.out
  rw [World.size_alloc] at hg h3
  have hb1 : Below w1.heap.size w1 w3 := (below_alloc (Below.refl _ _) _).trans (h3.mono (Nat.le_succ _))
  have hk := HF1.out.ke
  have hs := HB1.out.size
  have hs3 := hb1.size
  have hG := HG.out
  refine ⟨⟨w3.heap.size, w.heap.size, gn, g, n, cap, n⟩, rfl, rfl, by show w.heap.size ≤ w3.heap.size; omega, Nat.le_refl _, by show w.heap.size ≤ gn; omega, by show w.heap.size ≤ g; omega, ?_, new_tm HF1.out hb1 (by omega) HO.out⟩
  exact HB1.out.trans ((hb1.mono hs).trans ((below_alloc (Below.refl _ _) _).mono (by omega)))
end Go.Proofs.YtcnmbgijehnchaaW.Splay
/- Link, told case by case; the example at the head of the forest laws. -/
namespace Go.Proofs.YtcnmbgijehnchaaW.Splay
open Go.RowKit Go.Shelf Go.Proofs.YtcnmbgijehnchaaW.PrintWords Go.Proofs.YtcnmbgijehnchaaW.PrintLast Go.Proofs.YtcnmbgijehnchaaW.PrintMore Go.Proofs.YtcnmbgijehnchaaW.Mine
attribute [local go_sem] max2_int min2_int max_two min_two max_three min_three max_four min_four Oper.semAt_some
section
variable {D : Ad} {w0 w : World} {up val : Int → Int} {v x r s : Int} {a b q : List Int}
theorem link_ok (h : Tm D w0 w up val) (hr : up v = -1) (h0 : 0 ≤ v) (h1 : v < (D.N : Int)) (hq : Way (D.N : Int) up x q) (hv : v ∉ q) :
    Calls Try.prog 30 #[.pointer (some ⟨D.gt, 0, none⟩), .int .i64 v, .int .i64 x] w fun e w' => e = .returned (.int .i64 0) ∧ Tm D w0 w' (put up v x) val ∧ Kt D w w' := by
  have hp : Way (D.N : Int) up v ([] ++ [v]) := Way.mk_root h0 h1 hr
  have hne : q ≠ [] := hq.path.ne
  have e := (List.dropLast_concat_getLast hne).symm
  refine (link_calls h hp (b := q.dropLast) (s := q.getLast hne) (e ▸ hq)).mono ?_
  rintro e2 w' ⟨⟨h2, _⟩ | ⟨_, h2, _⟩ | ⟨_, _, h2, h3⟩, h4⟩
  · exact absurd rfl h2
  · exact absurd (h2 ▸ List.getLast_mem hne) hv
  · exact ⟨h2, h3, h4⟩
theorem link_same (h : Tm D w0 w up val) (hr : up v = -1) (h0 : 0 ≤ v) (h1 : v < (D.N : Int)) (hq : Way (D.N : Int) up x (b ++ [v])) :
    Calls Try.prog 30 #[.pointer (some ⟨D.gt, 0, none⟩), .int .i64 v, .int .i64 x] w fun e w' => e = .returned (.int .i64 5) ∧ Tm D w0 w' up val ∧ Kt D w w' := by
  have hp : Way (D.N : Int) up v ([] ++ [v]) := Way.mk_root h0 h1 hr
  refine (link_calls h hp hq).mono ?_
  rintro e2 w' ⟨⟨h2, _⟩ | ⟨_, _, h2, h3⟩ | ⟨_, h2, _⟩, h4⟩
  · exact absurd rfl h2
  · exact ⟨h2, h3, h4⟩
  · exact absurd rfl h2
end
theorem info_i64 : (Try.prog.info? 2).map (fun i => (i.zero, i.size, i.bytes)) = some (some (.int .i64 0), 1, 8) := by kernel_rfl
theorem make_i64 (n : Nat) (hn : n ≤ 1000000) (W : World) : (Instr.makeSlice 24 (.int .i64 (n : Int)) (.int .i64 (n : Int))).run Try.prog W = .ok (.slice (some ⟨W.heap.size, 0, none⟩) n n) (W.alloc (.cells (madeCells #[.int .i64 0] n) 2)) := by
  obtain ⟨i0, hi, hz0, hz1, hz2⟩ := info_parts info_i64
  have hr := run_make (P := Try.prog) W 24 2 i0 (.int .i64 0) Try.underlying24 hi hz0 .i64 .i64 (n : Int) (n : Int) (by omega) (by omega) (by rw [hz2]; omega) (by omega)
  simp only [Int.toNat_natCast] at hr
  rw [hz1, Nat.mul_one] at hr
  exact hr
theorem zeros_bd (n : Nat) : ∀ v ∈ List.replicate n (0 : Int), -4611686018427387904 ≤ v ∧ v ≤ 4611686018427387904 := fun v hv => by
  rw [(List.mem_replicate.1 hv).2]
  decide
theorem way1 {N : Int} (h : N = 3) : Way N bare 1 [1] := Way.mk_root (by omega) (by omega) rfl
theorem bare01 : put bare 0 1 1 = -1 := rfl
theorem way2 {N : Int} (h : N = 3) : Way N (put bare 0 1) 2 [2] := Way.mk_root (by omega) (by omega) rfl
theorem way3 {N : Int} (h : N = 3) : Way N (put (put bare 0 1) 1 2) 0 [0, 1, 2] := ⟨⟨rfl, rfl, rfl⟩, rfl, fun x hx => by
  simp at hx
  omega⟩
set_option maxHeartbeats 8000000 in
set_option maxRecDepth 100000 in
theorem shown10_calls (w : World) :
    Calls Try.prog 27 #[] w fun e w' => e = .returned (.bool true) ∧ Below w.heap.size w w' := by
  have hmk : ∀ W : World, (Instr.makeSlice 24 (.int .i64 3) (.int .i64 3)).run Try.prog W = .ok (.slice (some ⟨W.heap.size, 0, none⟩) 3 3) (W.alloc (.cells (madeCells #[.int .i64 0] 3) 2)) := fun W => make_i64 3 (by decide) W
  have HU0 : Aside0 (bare 0 = -1) := ⟨rfl⟩
  have HZ0 : Aside0 ((0 : Int) ≤ 0) := ⟨by decide⟩
  have HZ1 : Aside0 ((0 : Int) ≤ 1) := ⟨by decide⟩
  have HL0 : Aside0 (∀ N : Int, N = 3 → 0 < N ∧ 1 < N) := ⟨fun N h => by omega⟩
  have HM0 : Aside0 ((0 : Int) ∉ [(1 : Int)]) := ⟨by decide⟩
  have HM1 : Aside0 ((1 : Int) ∉ [(2 : Int)]) := ⟨by decide⟩
  go_enter Try.func27, Try.ntmps27
  go_wp2_with (first
    | (go_at_call 28; (refine (tnew_calls (w0 := w) (vs := List.replicate 3 0) rfl (below_alloc (Below.refl _ _) _) Rds.zeros (by decide) (by decide) (zeros_bd 3)).mono ?_); rintro e w1 ⟨D, rfl, hN, _, _, _, _, hB, hT⟩; have hN : (D.N : Int) = 3 := (by rw [hN]; rfl); have HN := Aside0.mk hN; have HT1 := Aside0.mk hT; clear hN hB hT)
    | (go_at_call 30; (with_reducible refine (link_ok HT1.out (v := 0) (x := 1) (q := [1]) HU0.out HZ0.out (HL0.out _ HN.out).1 (way1 HN.out) HM0.out).mono ?_); rintro e w2 ⟨rfl, hT, hK⟩; have HT2 := Aside0.mk hT; clear hT hK)
    | (go_at_call 30; (with_reducible refine (link_ok HT2.out (v := 1) (x := 2) (q := [2]) bare01 HZ1.out (HL0.out _ HN.out).2 (way2 HN.out) HM1.out).mono ?_); rintro e w3 ⟨rfl, hT, hK⟩; have HT3 := Aside0.mk hT; clear hT hK)
    | (go_at_call 34; (with_reducible refine (path_calls HT3.out (v := 0) (p := [0, 1, 2]) (way3 HN.out)).mono ?_); rintro e w4 ⟨g, c, rfl, hc, hm, hg, hrow, hT, hK⟩; have HT4 := Aside0.mk hT; have HR := Aside0.mk hrow; clear hT hK hrow hg hc hm)
    | (go_at_call 36; (refine (same10_calls (xs := [2, 1, 0]) (ys := [2, 1, 0]) ((show Rds w4 _ [2, 1, 0] from HR.out.all).below (below_alloc (Below.refl _ _) _)) (Rds.lit [2, 1, 0]) (by decide) (by decide)).mono ?_); rintro e w5 ⟨rfl, hd⟩; have HB5 : Aside0 (Below w.heap.size w w5) := ⟨((HT4.out.below (below_alloc (Below.refl _ _) _)).below hd.below).old⟩; clear hd))
  go_ret
  exact ⟨rfl, HB5.out⟩
end Go.Proofs.YtcnmbgijehnchaaW.Splay
/- Arrays of a call's own beside a forest; small contracts. -/
namespace Go.Proofs.YtcnmbgijehnchaaW.Splay
open Go.RowKit Go.Shelf Go.Proofs.YtcnmbgijehnchaaW.PrintWords Go.Proofs.YtcnmbgijehnchaaW.PrintLast Go.Proofs.YtcnmbgijehnchaaW.PrintMore Go.Proofs.YtcnmbgijehnchaaW.Mine
attribute [local go_sem] max2_int min2_int max_two min_two max_three min_three max_four min_four Oper.semAt_some
/-- 64 bits of small numbers. -/
theorem w64s {x : Int} (h0 : -1000000 ≤ x) (h1 : x ≤ 1000000) : wrap64 x = x := by
  unfold wrap64
  omega
theorem i64s {x : Int} (h0 : -1000000 ≤ x) (h1 : x ≤ 1000000) : IntKind.i64.wrap x = x := by
  rw [IntKind.wrap_i64]
  omega
/-- An array in a block of its own. -/
structure Va (w : World) (g n e : Nat) (F : Nat → Value) : Prop where
  ex : ∃ cs, w.heap[g]? = some (.cells cs e (0, 0)) ∧ ∀ j, j < n → cs[j]? = some (F j)
section
variable {D : Ad} {w0 w w1 : World} {up val : Int → Int} {g k n e j : Nat} {F G : Nat → Value} {v : Value}
theorem Va.lt (h : Va w g n e F) : g < w.heap.size := by
  obtain ⟨cs, hc, _⟩ := h.ex
  exact (Array.getElem?_eq_some_iff.1 hc).1
theorem Va.get (h : Va w g n e F) (hj : j < n) : w.cell? ⟨g, j, none⟩ = some (F j) ∧ w.frozen? ⟨g, j, none⟩ = false := by
  obtain ⟨cs, hc, hn⟩ := h.ex
  exact ⟨(blk_cell hc j).trans (hn j hj), blk_frozen hc j⟩
theorem Va.at_ (h : Va w g n e F) (hj : j < n) (hv : F j = v) : w.cell? ⟨g, j, none⟩ = some v ∧ w.frozen? ⟨g, j, none⟩ = false := hv ▸ h.get hj
theorem Va.move (h : Va w g n e F) (hk : w1.heap[g]? = w.heap[g]?) : Va w1 g n e F := by
  obtain ⟨cs, hc, hn⟩ := h.ex
  exact ⟨cs, hk.trans hc, hn⟩
theorem Va.kt (h : Va w g n e F) (hk : Kt D w w1) (h1 : g ≠ D.gs ∧ g ≠ D.gn ∧ g ≠ D.go) : Va w1 g n e F := h.move (hk.heap g h.lt h1.1 h1.2.1 h1.2.2)
theorem RowC.kt {xs : List Int} (h : RowC w g xs) (hk : Kt D w w1) (h1 : g ≠ D.gs ∧ g ≠ D.gn ∧ g ≠ D.go) : RowC w1 g xs := ⟨Nat.lt_of_lt_of_le h.lt hk.size, fun j hj => (cell_of_heap (hk.heap g h.lt h1.1 h1.2.1 h1.2.2)).trans (h.at_ j hj)⟩
theorem Va.below (h : Va w g n e F) (hb : Below w.heap.size w w1) : Va w1 g n e F := h.move (hb.block g h.lt)
theorem Va.fun_ (h : Va w g n e F) (hf : ∀ j, j < n → F j = G j) : Va w g n e G := by
  obtain ⟨cs, hc, hn⟩ := h.ex
  exact ⟨cs, hc, fun j hj => by rw [← hf j hj]; exact hn j hj⟩
theorem Va.new (w : World) (n e : Nat) (z : Value) : Va (w.alloc (.cells (madeCells #[z] n) e)) w.heap.size n e (fun _ => z) := ⟨_, blk_new w _, fun j hj => made_at hj⟩
theorem Va.new_set (w : World) (n e k : Nat) (z v : Value) : Va (w.alloc (.cells ((madeCells #[z] n).setIfInBounds k v) e)) w.heap.size n e (fun j => if j = k then v else z) := ⟨_, blk_new w _, fun j hj => by
  by_cases c : j = k
  · subst c
    rw [if_pos rfl]
    exact set_at (made_at hj)
  · rw [if_neg c, set_ne (fun e => c e.symm)]
    exact made_at hj⟩
theorem grown_set (w : World) (g j : Nat) (v : Value) : w.grownBy (w.setCell ⟨g, j, none⟩ v) (some g) := ⟨rfl, rfl, rfl, (KeepsWalks.setCell w _ _).size, fun k _ hk => Below.heap_setCell _ _ _ k (fun e => hk (by rw [e]))⟩
theorem Va.set (h : Va w g n e F) (j : Nat) (v : Value) : Va (w.setCell ⟨g, j, none⟩ v) g n e (fun i => if i = j then v else F i) := by
  obtain ⟨cs, hc, hn⟩ := h.ex
  refine ⟨_, blk_set hc _ _, fun i hi => ?_⟩
  by_cases c : i = j
  · subst c
    rw [if_pos rfl]
    exact set_at (hn i hi)
  · rw [if_neg c, set_ne (fun e => c e.symm)]
    exact hn i hi
theorem Va.far (h : Va w g n e F) (hk : g ≠ k) (j : Nat) (v : Value) : Va (w.setCell ⟨k, j, none⟩ v) g n e F := h.move ((grown_set w k j v).block _ h.lt (fun e => hk (Option.some.inj e)))
theorem Tm.lt (h : Tm D w0 w up val) : D.gt < w.heap.size ∧ D.gs < w.heap.size ∧ D.gn < w.heap.size ∧ D.go < w.heap.size ∧ w0.heap.size ≤ w.heap.size := by
  obtain ⟨⟨Ws, over, h1⟩, h2⟩ := h
  have h3 := h1.tf.lt
  have h4 := h1.tf.fm.ke
  exact ⟨h3.1, h4.1, h4.2.1, h3.2, h4.2.2.2.2.1⟩
/-- Another block is no block of the forest's. -/
def Far (D : Ad) (w0 : World) (g : Nat) : Prop := w0.heap.size ≤ g ∧ g ≠ D.gt ∧ g ≠ D.gs ∧ g ≠ D.gn ∧ g ≠ D.go
theorem Tm.far (h : Tm D w0 w up val) (hg : w.heap.size ≤ g) : Far D w0 g := by
  have h1 := h.lt
  unfold Far
  omega
theorem Far.kt (h : Far D w0 g) : g ≠ D.gs ∧ g ≠ D.gn ∧ g ≠ D.go := ⟨h.2.2.1, h.2.2.2.1, h.2.2.2.2⟩
theorem Tm.set_far (h : Tm D w0 w up val) (hg : Far D w0 g) (j : Nat) (v : Value) : Tm D w0 (w.setCell ⟨g, j, none⟩ v) up val := by
  obtain ⟨⟨Ws, over, h1⟩, h2⟩ := h
  have hG := grown_set w g j v
  obtain ⟨a1, a2, a3, a4, a5⟩ := hg
  obtain ⟨cs, hc, hn⟩ := h1.tf.ov
  have hl := h1.tf.lt
  refine ⟨⟨Ws, over, ⟨⟨h1.tf.fm.grown hG (fun r e => by cases e; exact ⟨a1, a3, a4⟩), ?_, ⟨cs, ?_, hn⟩, h1.tf.ne⟩, h1.inv, h1.vals⟩⟩, h2⟩
  · rw [hG.block _ hl.1 (fun e => a2 (Option.some.inj e).symm)]
    exact h1.tf.tb
  · rw [hG.block _ hl.2 (fun e => a5 (Option.some.inj e).symm)]
    exact hc
theorem cut_ok {v : Int} (h : Tm D w0 w up val) (h0 : 0 ≤ v) (h1 : v < (D.N : Int)) (hu : up v ≠ -1) :
    Calls Try.prog 31 #[.pointer (some ⟨D.gt, 0, none⟩), .int .i64 v] w fun e w' => e = .returned (.int .i64 0) ∧ Tm D w0 w' (put up v (-1)) val ∧ Kt D w w' := by
  refine (cut_calls h h0 h1).mono ?_
  rintro e w' ⟨⟨h2, _⟩ | ⟨_, h2⟩, h3⟩
  · exact absurd h2 hu
  · exact ⟨h2, h3⟩
theorem cut_no {v : Int} (h : Tm D w0 w up val) (h0 : 0 ≤ v) (h1 : v < (D.N : Int)) (hu : up v = -1) :
    Calls Try.prog 31 #[.pointer (some ⟨D.gt, 0, none⟩), .int .i64 v] w fun e w' => e = .returned (.int .i64 9) ∧ Tm D w0 w' (put up v (-1)) val ∧ Kt D w w' := by
  refine (cut_calls h h0 h1).mono ?_
  rintro e w' ⟨⟨_, h2⟩ | ⟨h2, _⟩, h3⟩
  · exact ⟨h2, h3⟩
  · exact absurd hu h2
theorem same10_self {A B : Option Addr} {xs : List Int} {c d : Nat} (ha : Rds w A xs) (hb : Rds w B xs) (hl : xs.length ≤ 1000000) :
    Calls Try.prog 36 #[.slice A xs.length c, .slice B xs.length d] w fun e w' => e = .returned (.bool true) ∧ Drawn0 w w' := by
  have h := same10_calls (c := c) (d := d) ha hb hl hl
  rwa [decide_eq_true rfl] at h
end
theorem info_bool : (Try.prog.info? 4).map (fun i => (i.zero, i.size, i.bytes)) = some (some (.bool false), 1, 1) := by kernel_rfl
theorem make_bools (n : Nat) (hn : n ≤ 1000000) (W : World) : (Instr.makeSlice 48 (.int .i64 (n : Int)) (.int .i64 (n : Int))).run Try.prog W = .ok (.slice (some ⟨W.heap.size, 0, none⟩) n n) (W.alloc (.cells (madeCells #[.bool false] n) 4)) := by
  obtain ⟨i0, hi, hz0, hz1, hz2⟩ := info_parts info_bool
  have hr := run_make (P := Try.prog) W 48 4 i0 (.bool false) Try.underlying48 hi hz0 .i64 .i64 (n : Int) (n : Int) (by omega) (by omega) (by rw [hz2]; omega) (by omega)
  simp only [Int.toNat_natCast] at hr
  rw [hz1, Nat.mul_one] at hr
  exact hr
end Go.Proofs.YtcnmbgijehnchaaW.Splay
