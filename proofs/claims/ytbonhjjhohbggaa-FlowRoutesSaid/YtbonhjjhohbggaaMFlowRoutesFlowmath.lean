/- Plain lists and numbers, for the law FlowRoutes: no program and no memory. -/
import Derived.Test.YtbonhjjhohbggaaPFlowRoutesx0
import Derived.Test.YtbonhjjhohbggaaMFlowRoutesBase
set_option linter.unusedVariables false
namespace Go.Proofs.Ytbonhjjhohbggaa.Pure
open Go.RowKit Go.Proofs.Ytbonhjjhohbggaa.PFlowRoutes Go.Proofs.YtbonhjjhohbggaaW.PrintWords Go.Proofs.YtbonhjjhohbggaaW.PrintLast
/-- Amounts within the capacities. -/
def Within : List S38 → List Int → Prop
  | [], [] => True
  | a :: l, x :: f => 0 ≤ x ∧ x ≤ a.f2 ∧ Within l f
  | _, _ => False
/-- What comes in to a node, without what goes out. -/
def exc : List S38 → List Int → Int → Int
  | a :: l, x :: f, v => (if a.f1 = v then x else 0) - (if a.f0 = v then x else 0) + exc l f v
  | _, _, _ => 0
theorem exc_nil (f : List Int) (v : Int) : exc [] f v = 0 := by cases f <;> rfl
def sumL : List Int → Int
  | [] => 0
  | x :: f => x + sumL f
theorem Within.len : ∀ {l : List S38} {f : List Int}, Within l f → f.length = l.length
  | [], [], _ => rfl
  | _ :: _, _ :: _, h => by simp [Within.len h.2.2]
  | [], _ :: _, h => h.elim
  | _ :: _, [], h => h.elim
theorem Within.get : ∀ {l : List S38} {f : List Int}, Within l f → ∀ i (h : i < l.length) (h' : i < f.length), 0 ≤ f[i] ∧ f[i] ≤ (l[i]).f2
  | _ :: _, _ :: _, h, 0, _, _ => ⟨h.1, h.2.1⟩
  | _ :: l, _ :: f, h, i + 1, h1, h2 => by
    simp only [List.getElem_cons_succ]
    exact Within.get h.2.2 i (by simpa using h1) (by simpa using h2)
  | [], [], _, i, h1, _ => absurd h1 (by simp)
theorem Within.of : ∀ {l : List S38} {f : List Int}, f.length = l.length → (∀ i (h : i < l.length) (h' : i < f.length), 0 ≤ f[i] ∧ f[i] ≤ (l[i]).f2) → Within l f
  | [], [], _, _ => trivial
  | a :: l, x :: f, hl, h => by
    have h0 := h 0 (by simp) (by simp)
    exact ⟨h0.1, h0.2, Within.of (by simpa using hl) (fun i h1 h2 => by have := h (i + 1) (by simpa using h1) (by simpa using h2); simpa using this)⟩
  | [], _ :: _, hl, _ => absurd hl (by simp)
  | _ :: _, [], hl, _ => absurd hl (by simp)
theorem rd_get {f : List Int} {i : Nat} (h : i < f.length) : rd f (i : Int) = f[i] := by simp [rd, h]
theorem rdT_get {l : List S38} {i : Nat} (h : i < l.length) : rd_T38 l (i : Int) = l[i] := by simp [rd_T38, h]
theorem Within.sum : ∀ {l : List S38} {f : List Int}, Within l f → 0 ≤ sumL f ∧ sumL f ≤ sumCap l
  | [], [], _ => ⟨Int.le_refl _, Int.le_refl _⟩
  | a :: l, x :: f, h => by
    have := Within.sum h.2.2
    have h1 := h.1
    have h2 := h.2.1
    simp only [sumL, sumCap]; omega
  | [], _ :: _, h => h.elim
  | _ :: _, [], h => h.elim
theorem Within.nonneg : ∀ {l : List S38} {f : List Int}, Within l f → ∀ x ∈ f, 0 ≤ x
  | [], [], _, x, hx => by cases hx
  | a :: l, y :: f, h, x, hx => by
    rcases List.mem_cons.1 hx with rfl | hx
    · exact h.1
    · exact Within.nonneg h.2.2 x hx
  | [], _ :: _, h, _, _ => h.elim
  | _ :: _, [], h, _, _ => h.elim
theorem Within.drop : ∀ {l : List S38} {f : List Int}, Within l f → ∀ i, Within (l.drop i) (f.drop i)
  | l, f, h, 0 => by simpa using h
  | [], [], _, _ + 1 => trivial
  | _ :: _, _ :: _, h, i + 1 => by simpa using Within.drop h.2.2 i
  | [], _ :: _, h, _ + 1 => h.elim
  | _ :: _, [], h, _ + 1 => h.elim
theorem Within.zeros : ∀ {l : List S38}, (∀ a ∈ l, 0 ≤ a.f2) → Within l (List.replicate l.length 0)
  | [], _ => trivial
  | a :: l, h => ⟨Int.le_refl _, h a List.mem_cons_self, Within.zeros (fun x hx => h x (List.mem_cons_of_mem _ hx))⟩
theorem exc_zeros : ∀ (l : List S38) (n : Nat) (v : Int), exc l (List.replicate n 0) v = 0
  | [], _, _ => by simp [exc]
  | _ :: _, 0, _ => by simp [exc]
  | a :: l, n + 1, v => by
    simp only [List.replicate_succ, exc, exc_zeros l n v]
    split <;> split <;> rfl
theorem Within.set : ∀ {l : List S38} {f : List Int}, Within l f → ∀ (i : Nat) (x : Int), 0 ≤ x → (∀ h : i < l.length, x ≤ (l[i]).f2) → Within l (f.set i x)
  | [], [], _, _, _, _, _ => by simp [Within]
  | a :: l, y :: f, h, 0, x, h0, hx => ⟨h0, hx (by simp), h.2.2⟩
  | a :: l, y :: f, h, i + 1, x, h0, hx => ⟨h.1, h.2.1, Within.set h.2.2 i x h0 (fun h' => by have := hx (by simpa using h'); simpa using this)⟩
  | [], _ :: _, h, _, _, _, _ => h.elim
  | _ :: _, [], h, _, _, _, _ => h.elim
theorem exc_set : ∀ {l : List S38} {f : List Int} (i : Nat) (x v : Int) (h : i < l.length) (h' : i < f.length),
    exc l (f.set i x) v = exc l f v + ((if (l[i]).f1 = v then x - f[i] else 0) - (if (l[i]).f0 = v then x - f[i] else 0))
  | [], _, _, _, _, h, _ => absurd h (by simp)
  | _ :: _, [], _, _, _, _, h' => absurd h' (by simp)
  | a :: l, y :: f, 0, x, v, _, _ => by
    simp only [List.set_cons_zero, exc, List.getElem_cons_zero]
    split <;> split <;> omega
  | a :: l, y :: f, i + 1, x, v, h, h' => by
    simp only [List.set_cons_succ, exc, List.getElem_cons_succ]
    rw [exc_set i x v (by simpa using h) (by simpa using h')]
    omega
theorem exc_bound : ∀ {l : List S38} {f : List Int}, (∀ x ∈ f, 0 ≤ x) → ∀ v, -sumL f ≤ exc l f v ∧ exc l f v ≤ sumL f
  | [], f, h, v => by
    have : ∀ g : List Int, (∀ x ∈ g, 0 ≤ x) → 0 ≤ sumL g := by
      intro g
      induction g with
      | nil => intro _; exact Int.le_refl _
      | cons y g ih => intro hg; have := ih (fun x hx => hg x (List.mem_cons_of_mem _ hx)); have := hg y List.mem_cons_self; simp only [sumL]; omega
    have := this f h
    simp only [exc]; omega
  | _ :: _, [], _, v => by simp [exc, sumL]
  | a :: l, x :: f, h, v => by
    have h1 := exc_bound (l := l) (fun y hy => h y (List.mem_cons_of_mem _ hy)) v
    have h2 := h x List.mem_cons_self
    simp only [exc, sumL]
    split <;> split <;> omega
/-- A flow. -/
structure IsFlow (n s t : Int) (l : List S38) (f : List Int) : Prop where
  within : Within l f
  cons : ∀ v, 1 ≤ v → v ≤ n → v ≠ s → v ≠ t → exc l f v = 0
theorem IsFlow.zeros {n s t : Int} {l : List S38} (h : ∀ a ∈ l, GoodArc n a) : IsFlow n s t l (List.replicate l.length 0) :=
  ⟨Within.zeros (fun a ha => (h a ha).2.2.2.2), fun v _ _ _ _ => exc_zeros _ _ _⟩
/-- The sum over the nodes 1 to n. -/
def sumTo (g : Int → Int) : Nat → Int
  | 0 => 0
  | n + 1 => sumTo g n + g ((n : Int) + 1)
theorem sumTo_add (g h : Int → Int) (n : Nat) : sumTo (fun v => g v + h v) n = sumTo g n + sumTo h n := by
  induction n with
  | zero => rfl
  | succ n ih => simp only [sumTo, ih]; omega
theorem sumTo_ext {g h : Int → Int} : ∀ {n : Nat}, (∀ v, 1 ≤ v → v ≤ (n : Int) → g v = h v) → sumTo g n = sumTo h n
  | 0, _ => rfl
  | n + 1, e => by
    simp only [sumTo]
    rw [sumTo_ext (n := n) (fun v h1 h2 => e v h1 (by omega)), e ((n : Int) + 1) (by omega) (by omega)]
theorem sumTo_one (u x : Int) : ∀ {n : Nat}, 1 ≤ u → u ≤ (n : Int) → sumTo (fun v => if u = v then x else 0) n = x
  | 0, h1, h2 => by omega
  | n + 1, h1, h2 => by
    simp only [sumTo]
    by_cases hu : u = (n : Int) + 1
    · have e : sumTo (fun v => if u = v then x else 0) n = sumTo (fun _ => 0) n := sumTo_ext (fun v _ hv => if_neg (by omega))
      have z : ∀ m, sumTo (fun _ => 0) m = 0 := by intro m; induction m with
        | zero => rfl
        | succ m ih => simp only [sumTo, ih]; omega
      rw [e, z, if_pos hu]; omega
    · rw [sumTo_one u x h1 (by omega), if_neg hu]; omega
theorem sumTo_zero (n : Nat) : sumTo (fun _ => 0) n = 0 := by
  induction n with
  | zero => rfl
  | succ m ih => simp only [sumTo, ih]; omega
theorem sumTo_neg (g : Int → Int) (n : Nat) : sumTo (fun v => -g v) n = -sumTo g n := by
  induction n with
  | zero => rfl
  | succ m ih => simp only [sumTo, ih]; omega
/-- All excesses are 0 together. -/
theorem exc_total : ∀ {l : List S38} {f : List Int} {n : Nat}, (∀ a ∈ l, GoodArc (n : Int) a) → sumTo (exc l f) n = 0
  | [], f, n, _ => by
    have : sumTo (exc [] f) n = sumTo (fun _ => 0) n := sumTo_ext (fun v _ _ => by simp [exc])
    rw [this, sumTo_zero]
  | a :: l, [], n, _ => by
    have : sumTo (exc (a :: l) []) n = sumTo (fun _ => 0) n := sumTo_ext (fun v _ _ => by simp [exc])
    rw [this, sumTo_zero]
  | a :: l, x :: f, n, h => by
    obtain ⟨g0, g1, g2, g3, _⟩ := h a List.mem_cons_self
    have ih := exc_total (l := l) (f := f) (n := n) (fun y hy => h y (List.mem_cons_of_mem _ hy))
    have e : sumTo (exc (a :: l) (x :: f)) n = sumTo (fun v => ((if a.f1 = v then x else 0) + -(if a.f0 = v then x else 0)) + exc l f v) n := sumTo_ext (fun v _ _ => by simp only [exc]; omega)
    rw [e, sumTo_add, sumTo_add, sumTo_neg, sumTo_one a.f1 x g2 g3, sumTo_one a.f0 x g0 g1, ih]
    omega
end Go.Proofs.Ytbonhjjhohbggaa.Pure
