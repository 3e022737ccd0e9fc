/- Plain lists and numbers, for the law ResidualRooms: no program and no memory. -/
import Derived.Test.YtjbeofcgnnlllaaPResidualRoomsx0
import Derived.Test.YtjbeofcgnnlllaaPResidualRoomsx6
import Derived.Test.YtjbeofcgnnlllaaPResidualRoomsx12
import Derived.Test.YtjbeofcgnnlllaaPResidualRoomsx13
import Derived.Test.YtjbeofcgnnlllaaMResidualRoomsBase
import Derived.Test.YtjbeofcgnnlllaaMResidualRoomsPick
import Derived.Test.YtjbeofcgnnlllaaMResidualRoomsMade
import Derived.Test.YtjbeofcgnnlllaaMResidualRoomsFlowmath
import Derived.Test.YtjbeofcgnnlllaaMResidualRoomsFlowfun
import Derived.Test.YtjbeofcgnnlllaaMResidualRoomsWalk
import Derived.Test.YtjbeofcgnnlllaaMResidualRoomsRouted
import Derived.Test.YtjbeofcgnnlllaaMResidualRoomsResid
set_option linter.unusedVariables false
namespace Go.Proofs.Ytjbeofcgnnlllaa.Pure
open Go.RowKit Go.Proofs.Ytjbeofcgnnlllaa.PResidualRooms Go.Proofs.YtjbeofcgnnlllaaW.PrintWords Go.Proofs.YtjbeofcgnnlllaaW.PrintLast
theorem roomOf_len : ∀ {l : List S28} {f : List Int}, f.length = l.length → (roomOf l f).length = 2 * l.length
  | [], [], _ => rfl
  | a :: l, x :: f, h => by
    have := roomOf_len (l := l) (f := f) (by simpa using h)
    simp only [roomOf, List.length_cons, this]; omega
  | [], _ :: _, h => absurd h (by simp)
  | _ :: _, [], h => absurd h (by simp)
theorem roomOf_get : ∀ {l : List S28} {f : List Int} (W : Within l f) (hcap : ∀ a ∈ l, a.f2 < 1000000000000) (i : Nat), i < l.length →
    (roomOf l f)[2 * i]? = some ((rd_T28 l (i : Int)).f2 - rd f (i : Int)) ∧ (roomOf l f)[2 * i + 1]? = some (rd f (i : Int))
  | [], _, _, _, i, h => absurd h (by simp)
  | _ :: _, [], W, _, _, _ => W.elim
  | a :: l, x :: f, W, hcap, 0, _ => by
    have h0 := W.1
    have h1 := W.2.1
    have h2 := hcap a List.mem_cons_self
    simp only [roomOf, rd, rd_T28]
    simp only [Nat.mul_zero, Nat.zero_add, List.getElem?_cons_zero, List.getElem?_cons_succ]
    rw [wrap_id (by omega) (by omega)]
    exact ⟨rfl, rfl⟩
  | a :: l, x :: f, W, hcap, i + 1, h => by
    have ih := roomOf_get W.2.2 (fun b hb => hcap b (List.mem_cons_of_mem _ hb)) i (by simpa using h)
    have e1 : rd (x :: f) ((i + 1 : Nat) : Int) = rd f (i : Int) := by
      unfold rd
      rw [show ((i + 1 : Nat) : Int).toNat = i + 1 by omega, show (i : Int).toNat = i by omega]; rfl
    have e2 : rd_T28 (a :: l) ((i + 1 : Nat) : Int) = rd_T28 l (i : Int) := by
      unfold rd_T28
      rw [show ((i + 1 : Nat) : Int).toNat = i + 1 by omega, show (i : Int).toNat = i by omega]; rfl
    rw [e1, e2]
    simp only [roomOf]
    rw [show 2 * (i + 1) = 2 * i + 1 + 1 by omega, show 2 * i + 1 + 1 + 1 = (2 * i + 1) + 1 + 1 by omega]
    simp only [List.getElem?_cons_succ]
    exact ih
theorem roomOf_rd {l : List S28} {f : List Int} (W : Within l f) (hcap : ∀ a ∈ l, a.f2 < 1000000000000) {i : Int} (h0 : 0 ≤ i) (h1 : i < (l.length : Int)) :
    rd (roomOf l f) (2 * i) = (rd_T28 l i).f2 - rd f i ∧ rd (roomOf l f) (2 * i + 1) = rd f i := by
  obtain ⟨j, rfl⟩ : ∃ j : Nat, i = (j : Int) := ⟨i.toNat, by omega⟩
  obtain ⟨a, b⟩ := roomOf_get W hcap j (by omega)
  constructor
  · show (roomOf l f).getD (2 * (j : Int)).toNat 0 = _
    rw [List.getD_eq_getElem?_getD, show (2 * (j : Int)).toNat = 2 * j by omega, a]; rfl
  · show (roomOf l f).getD (2 * (j : Int) + 1).toNat 0 = _
    rw [List.getD_eq_getElem?_getD, show (2 * (j : Int) + 1).toNat = 2 * j + 1 by omega, b]; rfl
theorem room_ev {n s t : Int} {l : List S28} {f : List Int} (R : Right n s t l) (F : IsFlow n s t l f) : Ev (fun k => residual_Room.f k n s t l f) (roomOf l f, 0) := by
  have hlen := F.within.len
  have hl := R.len
  unfold residual_Room.f
  refine Ev.bind (check_flow R F) ?_
  have c : f.length ≤ l.length ∧ f.length ≤ 8796093022208 := by omega
  simp only [if_true, if_pos c]
  exact Ev.now _
theorem ends_out {n s t r : Int} {l : List S28} (h0 : 2 * (l.length : Int) ≤ r) (h1 : r ≤ 1000000) : Ev (fun k => residual_Ends.f k n s t l r) (0, 0) := by
  have hd : wrap64 (Int.tdiv r 2) = r / 2 := by rw [tdiv2 (by omega), wrap_id (by omega) (by omega)]
  have e : Ev (fun k => residual_Ends.j0 k r (decide (wrap64 (Int.tdiv r 2) ≥ (l.length : Int))) n s t l) (0, 0) := by
    refine Ev.step (f := fun _ => some (0, 0)) (fun k => ?_) (Ev.now _)
    simp only [residual_Ends.j0, hd]
    rw [if_pos (by simp; omega)]
  refine Ev.congr (fun k => ?_) e
  unfold residual_Ends.f
  rw [if_neg (by omega)]
/-- The residual tracks below m that begin at v. -/
def tr (l : List S28) (v : Int) : Nat → List Int
  | 0 => []
  | m + 1 => tr l v m ++ (if fromOf l (m : Int) = v then [(m : Int)] else [])
theorem tr_mem {l : List S28} {v : Int} : ∀ {m : Nat} {r : Int}, r ∈ tr l v m → 0 ≤ r ∧ r < (m : Int) ∧ fromOf l r = v
  | 0, r, h => by simp [tr] at h
  | m + 1, r, h => by
    rcases List.mem_append.1 h with h | h
    · have := tr_mem h
      omega
    · split at h <;> rename_i c
      · obtain rfl := List.mem_singleton.1 h
        exact ⟨by omega, by omega, c⟩
      · cases h
theorem tr_len {l : List S28} {v : Int} : ∀ m : Nat, (tr l v m).length ≤ m
  | 0 => Nat.le_refl _
  | m + 1 => by
    have := tr_len (l := l) (v := v) m
    simp only [tr, List.length_append]
    split <;> simp <;> omega
theorem tr_sorted {l : List S28} {v : Int} : ∀ m : Nat, (tr l v m).Pairwise (· < ·)
  | 0 => List.Pairwise.nil
  | m + 1 => by
    refine List.pairwise_append.2 ⟨tr_sorted m, ?_, fun a ha b hb => ?_⟩
    · split
      · exact List.pairwise_singleton _ _
      · exact List.Pairwise.nil
    · have := tr_mem ha
      split at hb
      · obtain rfl := List.mem_singleton.1 hb
        omega
      · cases hb
theorem tr_two {l : List S28} {v : Int} (i : Nat) : tr l v (2 * (i + 1)) = tr l v (2 * i) ++ (if (rd_T28 l (i : Int)).f0 = v then [2 * (i : Int)] else []) ++ (if (rd_T28 l (i : Int)).f1 = v then [2 * (i : Int) + 1] else []) := by
  have f0 : fromOf l ((2 * i : Nat) : Int) = (rd_T28 l (i : Int)).f0 := by
    unfold fromOf
    rw [if_neg (by omega), show ((2 * i : Nat) : Int) / 2 = (i : Int) by omega]
  have f1 : fromOf l ((2 * i + 1 : Nat) : Int) = (rd_T28 l (i : Int)).f1 := by
    unfold fromOf
    rw [if_pos (by omega), show ((2 * i + 1 : Nat) : Int) / 2 = (i : Int) by omega]
  show tr l v (2 * i + 1 + 1) = _
  simp only [tr, f0, f1]
  rw [show ((2 * i : Nat) : Int) = 2 * (i : Int) by omega, show ((2 * i + 1 : Nat) : Int) = 2 * (i : Int) + 1 by omega]
theorem tracks_loop {l : List S28} {v : Int} (hl : l.length ≤ 2000) (d : Nat) : ∀ i : Nat, i + d = l.length →
    Ev (fun k => residual_From.l0 k v (tr l v (2 * i)) l (l.length : Int) (i : Int)) (tr l v (2 * l.length)) := by
  induction d with
  | zero =>
    intro i hi
    obtain rfl : i = l.length := by omega
    refine Ev.step (f := fun _ => some (tr l v (2 * l.length))) (fun k => ?_) (Ev.now _)
    simp only [residual_From.l0]
    rw [if_neg (by omega)]
  | succ d ih =>
    intro i hi
    have hil : i < l.length := by omega
    have hT := tr_len (l := l) (v := v) (2 * i)
    refine Ev.step (fun k => ?_) (ih (i + 1) (by omega))
    rw [tr_two]
    generalize tr l v (2 * i) = T at hT
    simp only [residual_From.l0]
    rw [wrap_id (x := 2 * (i : Int)) (by omega) (by omega), wrap_id (x := 2 * (i : Int) + 1) (by omega) (by omega), if_pos (by omega), if_pos (by omega), if_pos (by omega), wrap_succ (by omega)]
    by_cases c0 : (rd_T28 l (i : Int)).f0 = v
    · rw [if_pos c0, if_pos c0, if_pos (by omega)]
      simp only [Option.bind_some]
      by_cases c1 : (rd_T28 l (i : Int)).f1 = v
      · rw [if_pos c1, if_pos c1, if_pos (by simp; omega)]
      · rw [if_neg c1, if_neg c1, List.append_nil]
    · rw [if_neg c0, if_neg c0, List.append_nil]
      by_cases c1 : (rd_T28 l (i : Int)).f1 = v
      · rw [if_pos c1, if_pos c1, if_pos (by omega)]
      · rw [if_neg c1, if_neg c1, List.append_nil]
theorem tracks_ev {n s t v : Int} {l : List S28} (hl : l.length ≤ 2000) : Ev (fun k => residual_From.f k n s t l v) (tr l v (2 * l.length)) :=
  tracks_loop hl l.length 0 (by omega)
/-- All tracks begin somewhere. -/
theorem tr_all {n : Nat} {l : List S28} (hg : ∀ a ∈ l, GoodArc (n : Int) a) : ∀ m : Nat, m ≤ 2 * l.length → sumTo (fun v => ((tr l v m).length : Int)) n = (m : Int)
  | 0, _ => by
    have : sumTo (fun v => ((tr l v 0).length : Int)) n = sumTo (fun _ => 0) n := sumTo_ext (fun v _ _ => rfl)
    rw [this, sumTo_zero]; rfl
  | m + 1, h => by
    obtain ⟨g0, g1, _, _⟩ := ends_range hg (r := (m : Int)) (l := l) ⟨by omega, by omega⟩
    have e : sumTo (fun v => ((tr l v (m + 1)).length : Int)) n = sumTo (fun v => ((tr l v m).length : Int) + (if fromOf l (m : Int) = v then 1 else 0)) n := sumTo_ext (fun v _ _ => by
      simp only [tr, List.length_append]
      split <;> simp)
    rw [e, sumTo_add, tr_all hg m (by omega), sumTo_one _ _ g0 g1]; rfl
end Go.Proofs.Ytjbeofcgnnlllaa.Pure
