/- Plain lists and numbers, for the law PlainSingle: no program and no memory. -/
import Derived.Test.YtdiaedecnfbgdaaPPlainSinglex0
import Derived.Test.YtdiaedecnfbgdaaPPlainSinglex6
import Derived.Test.YtdiaedecnfbgdaaPPlainSinglex19
import Derived.Test.YtdiaedecnfbgdaaPPlainSinglex21
import Derived.Test.YtdiaedecnfbgdaaMPlainSingleAll
set_option linter.unusedVariables false
namespace Go.Proofs.Ytdiaedecnfbgdaa.Pure
open Go.RowKit Go.Proofs.Ytdiaedecnfbgdaa.PPlainSingle Go.Proofs.YtdiaedecnfbgdaaW.PrintWords Go.Proofs.YtdiaedecnfbgdaaW.PrintLast
/-- The arcs. -/
def sArcs (raws : List Int) : Nat → List S30
  | 0 => []
  | i + 1 => sArcs raws i ++ [⟨2, 1, pk (rd raws (i : Int)) 20⟩]
theorem sArcs_len (raws : List Int) : ∀ i, (sArcs raws i).length = i
  | 0 => rfl
  | i + 1 => by rw [sArcs, List.length_append, sArcs_len raws i]; rfl
theorem sArcs_get (raws : List Int) : ∀ {i j : Nat}, j < i → (sArcs raws i)[j]? = some ⟨2, 1, pk (rd raws (j : Int)) 20⟩
  | 0, _, h => by omega
  | i + 1, j, h => by
    have hl := sArcs_len raws i
    rw [sArcs]
    by_cases c : j < i
    · rw [List.getElem?_append_left (by omega)]
      exact sArcs_get raws c
    · have e : j = i := by omega
      subst e
      rw [List.getElem?_append_right (by omega), hl, Nat.sub_self]
      rfl
theorem sArcs_rd {raws : List Int} {i : Nat} {j : Int} (h0 : 0 ≤ j) (h : j < (i : Int)) : rd_T30 (sArcs raws i) j = ⟨2, 1, pk (rd raws j) 20⟩ := by
  obtain ⟨q, rfl⟩ : ∃ q : Nat, j = (q : Int) := ⟨j.toNat, by omega⟩
  unfold rd_T30
  rw [List.getD_eq_getElem?_getD, Int.toNat_natCast, sArcs_get raws (by omega)]
  rfl
theorem sArcs_bunch (raws : List Int) {m : Nat} (hm : m ≤ 80) : Bunch 2 1 (sArcs raws m) :=
  ⟨fun a ha => by
    obtain ⟨i, hi, rfl⟩ := List.mem_iff_getElem.1 ha
    rw [sArcs_len] at hi
    have := sArcs_get raws hi
    have e : (sArcs raws m)[i]'(by rw [sArcs_len]; exact hi) = ⟨2, 1, pk (rd raws (i : Int)) 20⟩ := by
      rw [List.getElem?_eq_getElem (by rw [sArcs_len]; exact hi)] at this
      exact Option.some.inj this
    rw [e]
    have p := pk_range (c := rd raws (i : Int)) (n := 20) (by decide)
    exact ⟨rfl, rfl, p.1, by show pk _ 20 < 100; omega⟩, .inr ⟨rfl, rfl⟩, by rw [sArcs_len]; exact hm⟩
/-- The tracks that are wanted. -/
def sWant (raws : List Int) (x : Int) : Nat → List Int
  | 0 => []
  | i + 1 => sWant raws x i ++ (if x ≤ pk (rd raws (i : Int)) 20 then [2 * (i : Int)] else [])
theorem sWant_len (raws : List Int) (x : Int) : ∀ i, (sWant raws x i).length ≤ i
  | 0 => Nat.le_refl _
  | i + 1 => by
    have := sWant_len raws x i
    rw [sWant, List.length_append]
    split <;> simp <;> omega
theorem sWant_gd (raws : List Int) (x : Int) {m : Nat} (hm : m ≤ 80) : ∀ i : Nat, i ≤ m → gd (roomOf (sArcs raws m) (List.replicate (sArcs raws m).length 0)) x i = sWant raws x i
  | 0, _ => rfl
  | i + 1, h => by
    have hr := ((sArcs_bunch raws hm).room (j := (i : Int)) (by omega) (by rw [sArcs_len]; omega)).1
    rw [sArcs_rd (by omega) (by omega)] at hr
    rw [gd, sWant, sWant_gd raws x hm i (by omega), hr]
section
variable {raws : List Int} {x : Int}
theorem single_l1 (hm : raws.length ≤ 80) {W out : List Int} {ws : List S61} (hW : ∀ r ∈ W, ∃ j : Int, r = 2 * j ∧ 0 ≤ j ∧ j < (raws.length : Int) ∧ rd out j = pk (rd raws j) 20)
    (hout : out.length = raws.length) (hws : ws = W.map fun r => ⟨[r], (rd_T30 (sArcs raws raws.length) (r / 2)).f2⟩) (hl : W.length ≤ 80) (d : Nat) : ∀ i : Nat, i + d = W.length →
    Ev (fun k => racewaylaw8_PlainSingle.l1 k W out ws (i : Int) 2 2 1 (sArcs raws raws.length)) true := by
  have hlw : ws.length = W.length := by rw [hws, List.length_map]
  induction d with
  | zero =>
    intro i hi
    refine Ev.step (f := fun _ => some true) (fun k => ?_) (Ev.now _)
    simp only [racewaylaw8_PlainSingle.l1]
    rw [if_neg (by omega)]
  | succ d ih =>
    intro i hi
    have hiw : i < W.length := by omega
    have p0 : (i : Int) < (ws.length : Int) := by omega
    have p1 : (0 : Int) ≤ (i : Int) := by omega
    have hw1 : wrap64 ((i : Int) + 1) = ((i + 1 : Nat) : Int) := by rw [wrap_id (by omega) (by omega)]; rfl
    have p2 : (i : Int) ≤ wrap64 ((i : Int) + 1) := by rw [hw1]; omega
    have p3 : wrap64 ((i : Int) + 1) ≤ (W.length : Int) := by rw [hw1]; omega
    have p4 : (i : Int) < (W.length : Int) := by omega
    have hnext := ih (i + 1) (by omega)
    clear ih
    obtain ⟨j, e, j0, j1, j2⟩ := hW W[i] (List.getElem_mem hiw)
    have hrd : rd W (i : Int) = 2 * j := by rw [rd_get hiw]; exact e
    have hwi : rd_T61 ws (i : Int) = ⟨[2 * j], pk (rd raws j) 20⟩ := by
      unfold rd_T61
      rw [List.getD_eq_getElem?_getD, Int.toNat_natCast, hws, List.getElem?_map, List.getElem?_eq_getElem hiw]
      show (⟨[W[i]], (rd_T30 (sArcs raws raws.length) (W[i] / 2)).f2⟩ : S61) = _
      rw [e, show 2 * j / 2 = j by omega, sArcs_rd j0 j1]
    have hcut : (W.take (wrap64 ((i : Int) + 1)).toNat).drop (i : Int).toNat = [2 * j] := by
      rw [hw1, Int.toNat_natCast, Int.toNat_natCast, List.drop_take, show i + 1 - i = 1 by omega, List.drop_eq_getElem_cons hiw, e]
      rfl
    have hd : wrap64 (Int.tdiv (2 * j) 2) = j := by rw [tdiv2 (by omega), show 2 * j / 2 = j by omega, wrap_id (by omega) (by omega)]
    have hal := sArcs_len raws raws.length
    have p5 : j < ((sArcs raws raws.length).length : Int) := by rw [hal]; exact j1
    have p6 : j < (out.length : Int) := by rw [hout]; exact j1
    refine Ev.step (f := ?g) (fun k => ?h) ?e
    case h =>
      simp only [racewaylaw8_PlainSingle.l1]
      rw [if_pos p0, if_pos p1, if_pos p2, if_pos p3, hwi, hcut]
    case e =>
      refine Ev.bind (samei_ev [2 * j] [2 * j] (by simp)) ?_
      simp only [decide_true, if_true]
      refine Ev.congr (fun k => ?_) hnext
      rw [if_pos p4, hrd, hd, if_pos j0, if_pos p5, sArcs_rd j0 j1]
      simp only [if_true]
      rw [if_pos p6, if_pos j2, hw1]
theorem single_l0 (hw : ∀ x ∈ raws, -9223372036854775808 ≤ x ∧ x ≤ 9223372036854775807) (hm : raws.length ≤ 80) (hx : 1 ≤ x) (d : Nat) : ∀ i : Nat, i + d = raws.length →
    Ev (fun k => racewaylaw8_PlainSingle.l0 k raws x (sWant raws x i) (i : Int) 2 2 1 (sArcs raws i)) true := by
  induction d with
  | zero =>
    intro i hi
    have e : i = raws.length := by omega
    subst e
    have hal := sArcs_len raws raws.length
    have B := sArcs_bunch raws hm
    obtain ⟨out, h1, h2, h3⟩ := bunch_block B hx
    have hg := sWant_gd raws x hm raws.length (Nat.le_refl _)
    rw [hal] at hg
    rw [hal, hg] at h1
    have hwl := sWant_len raws x raws.length
    have hgd : ∀ r ∈ sWant raws x raws.length, ∃ j : Int, r = 2 * j ∧ 0 ≤ j ∧ j < (raws.length : Int) ∧ rd out j = pk (rd raws j) 20 := fun r h => by
      rw [← sWant_gd raws x hm raws.length (Nat.le_refl _)] at h
      obtain ⟨j, e, j0, j1, j2⟩ := (gd_mem _).1 h
      subst e
      have hr := (B.room (j := j) j0 (by rw [hal]; exact j1)).1
      rw [hr] at j2
      have h4 := h3 j j0 (by rw [hal]; exact j1)
      rw [if_pos j2, sArcs_rd j0 j1] at h4
      exact ⟨j, rfl, j0, j1, h4⟩
    refine Ev.step (f := ?g) (fun k => ?h) ?e
    case h =>
      simp only [racewaylaw8_PlainSingle.l0]
      rw [if_neg (by omega), if_pos (by omega), if_pos (by omega), Int.toNat_natCast]
    case e =>
      refine Ev.bind h1 ?_
      simp only [if_true]
      have hb : (((List.map (fun r => (⟨[r], (rd_T30 (sArcs raws raws.length) (r / 2)).f2⟩ : S61)) (sWant raws x raws.length)).length : Int) != ((sWant raws x raws.length).length : Int)) = false := by
        rw [List.length_map]
        simp
      rw [hb]
      refine Ev.step (f := ?g2) (fun k => ?h2) ?e2
      case h2 =>
        simp only [racewaylaw8_PlainSingle.j2]
        rw [if_neg (by decide)]
      case e2 =>
        exact single_l1 hm hgd (by omega) rfl (by omega) (sWant raws x raws.length).length 0 (by omega)
  | succ d ih =>
    intro i hi
    have hil : i < raws.length := by omega
    have hb := hw _ (List.getElem_mem hil)
    have hal := sArcs_len raws i
    have hwl := sWant_len raws x i
    have hp : racewaylaw8_pick.f (rd raws (i : Int)) 20 = some (pk (rd raws (i : Int)) 20) := by
      rw [rd_get hil]
      exact pick_eq hb.1 hb.2 (by decide)
    have hw1 : wrap64 ((i : Int) + 1) = ((i + 1 : Nat) : Int) := by rw [wrap_id (by omega) (by omega)]; rfl
    have hw2 : wrap64 (2 * (i : Int)) = 2 * (i : Int) := wrap_id (by omega) (by omega)
    refine Ev.step (fun k => ?_) (ih (i + 1) (by omega))
    simp only [racewaylaw8_PlainSingle.l0]
    rw [if_pos (by omega), if_pos (by omega), hp]
    simp only [Option.bind_some]
    rw [if_pos (by omega), hw1, hw2]
    by_cases c : x ≤ pk (rd raws (i : Int)) 20
    · rw [if_pos c, if_pos (by omega), sWant, if_pos c, sArcs]
    · rw [if_neg c, sWant, if_neg c, List.append_nil, sArcs]
end
theorem PlainSingle : racewaylaw8_PlainSingle.Pure := by
  intro l a _ _ hw ha
  have hw2 : ∀ x ∈ l, -9223372036854775808 ≤ x ∧ x ≤ 9223372036854775807 := fun x hx => wf_bounds (hw x hx)
  have hab := wf_bounds ha
  have h : Ev (fun k => racewaylaw8_PlainSingle.f k l a) true := by
    unfold racewaylaw8_PlainSingle.f
    refine Ev.bind shown8_ev ?_
    simp only [if_true]
    by_cases c : (l.length : Int) > 80
    · rw [decide_eq_true c]
      refine Ev.step (f := fun _ => some true) (fun k => ?_) (Ev.now _)
      simp only [racewaylaw8_PlainSingle.j0]
      rw [if_pos (by trivial)]
    · rw [decide_eq_false c]
      have p := pk_range (c := a) (n := 10) (by decide)
      refine Ev.step (f := ?g) (fun k => ?h) ?e
      case h =>
        simp only [racewaylaw8_PlainSingle.j0]
        rw [if_neg (by decide), pick_eq hab.1 hab.2 (by decide)]
      case e =>
        simp only [Option.bind_some]
        rw [wrap_id (by omega) (by omega)]
        exact single_l0 hw2 (by omega) (by omega) l.length 0 (by omega)
  exact Ev.rounds h
end Go.Proofs.Ytdiaedecnfbgdaa.Pure
