/- Plain lists and numbers, for the law NetTurns: no program and no memory. -/
import Derived.Test.YtjbeofcgnnlllaaPNetTurnsx0
import Derived.Test.YtjbeofcgnnlllaaPNetTurnsx8
import Derived.Test.YtjbeofcgnnlllaaPNetTurnsx9
import Derived.Test.YtjbeofcgnnlllaaPNetTurnsx10
import Derived.Test.YtjbeofcgnnlllaaPNetTurnsx17
import Derived.Test.YtjbeofcgnnlllaaMNetTurnsBase
import Derived.Test.YtjbeofcgnnlllaaMNetTurnsFlowmath
import Derived.Test.YtjbeofcgnnlllaaMNetTurnsSamei
import Derived.Test.YtjbeofcgnnlllaaMNetTurnsShown3
import Derived.Test.YtjbeofcgnnlllaaMNetTurnsArcs
import Derived.Test.YtjbeofcgnnlllaaMNetTurnsEqarcs
import Derived.Test.YtjbeofcgnnlllaaMNetTurnsTurn
import Derived.Laws.BitsLemmas
set_option linter.unusedVariables false
namespace Go.Proofs.Ytjbeofcgnnlllaa.Pure
open Go.RowKit Go.Proofs.Ytjbeofcgnnlllaa.PNetTurns Go.Proofs.YtjbeofcgnnlllaaW.PrintWords Go.Proofs.YtjbeofcgnnlllaaW.PrintLast
theorem wf_bounds {c : Int} (h : (Lit.int .i64 c).wf = true) : -9223372036854775808 ≤ c ∧ c ≤ 9223372036854775807 := by
  simp [Lit.wf] at h
  obtain ⟨h1, h2⟩ := h
  have e : IntKind.i64.min = -9223372036854775808 := by decide
  rw [e] at h1
  exact ⟨h1, h2⟩
theorem ofInt_wrap (V : BitVec 64) : BitVec.ofInt 64 (IntKind.i64.wrap (V.toNat : Int)) = V := by
  apply BitVec.eq_of_toNat_eq
  rw [BitVec.toNat_ofInt, IntKind.wrap_i64]
  have := V.isLt
  omega
theorem xor_ne (c : Int) : Go.bits .xor .i64 c 1 ≠ c := by
  intro h
  have h1 : IntKind.i64.wrap (((BitVec.ofInt 64 c) ^^^ (BitVec.ofInt 64 1)).toNat : Int) = c := h
  have h2 := congrArg (BitVec.ofInt 64) h1
  rw [ofInt_wrap] at h2
  have h3 := congrArg (fun v => v.getLsbD 0) h2
  simp [BitVec.getLsbD_xor] at h3
def xa (a : S28) : S28 := ⟨a.f0, a.f1, Go.bits .xor .i64 a.f2 1⟩
theorem xa_ne {l : List S28} (h : l ≠ []) : l.map xa = l → False := by
  cases l with
  | nil => exact (h rfl).elim
  | cons a t =>
    intro e
    simp only [List.map_cons, List.cons.injEq] at e
    exact xor_ne _ (congrArg S28.f2 e.1)
theorem xor_loop {n s t : Int} {l : List S28} (hl : l.length ≤ 3000) (d : Nat) : ∀ i : Nat, i + d = l.length →
    Ev (fun k => racewaylaw3_NetTurns.l0 k (i : Int) n s t l n s t ((l.take i).map xa ++ l.drop i)) true := by
  induction d with
  | zero =>
    intro i hi
    have e : (l.take i).map xa ++ l.drop i = l.map xa := by rw [List.take_of_length_le (by omega), List.drop_of_length_le (by omega), List.append_nil]
    rw [e]
    refine Ev.step (f := fun _ => some true) (fun k => ?_) (Ev.now _)
    simp only [racewaylaw3_NetTurns.l0]
    rw [if_neg (by rw [List.length_map]; omega)]
    by_cases c : l = []
    · subst c
      simp [same_self]
    · rw [same_not (fun _ _ _ e => xa_ne c e)]
      have h0 : 0 < l.length := List.length_pos_iff.2 c
      have h1 : ((l.length : Int) == 0) = false := beq_eq_false_iff_ne.2 (by omega)
      simp only [Option.bind_some, h1]
      rfl
  | succ d ih =>
    intro i hi
    have hil : i < l.length := by omega
    have hlen : ((l.take i).map xa ++ l.drop i).length = l.length := by rw [List.length_append, List.length_map, List.length_take, List.length_drop]; omega
    have ht : ((l.take i).map xa).length = i := by rw [List.length_map, List.length_take]; omega
    have hrd : rd_T28 ((l.take i).map xa ++ l.drop i) (i : Int) = l[i] := by
      rw [rdT_get (by omega), List.getElem_append_right (by omega), List.getElem_drop]
      congr 1
      omega
    have hset : ((l.take i).map xa ++ l.drop i).set i (xa l[i]) = (l.take (i + 1)).map xa ++ l.drop (i + 1) := by
      rw [List.set_append_right _ _ (by omega), ht, Nat.sub_self, List.drop_eq_getElem_cons hil, List.set_cons_zero, List.take_succ_eq_append_getElem hil, List.map_append]
      simp
    refine Ev.step (fun k => ?_) (ih (i + 1) (by omega))
    simp only [racewaylaw3_NetTurns.l0]
    rw [if_pos (by omega), if_pos (by omega), hrd, Int.toNat_natCast]
    have e : (⟨(l[i]).f0, (l[i]).f1, Go.bits .xor .i64 (l[i]).f2 1⟩ : S28) = xa l[i] := rfl
    rw [e, hset, wrap_id (by omega) (by omega)]
    rfl
theorem NetTurns : racewaylaw3_NetTurns.Pure := by
  intro n s t l v w0 w1 w2 m3 w3 w4
  refine Ev.rounds ?_
  unfold racewaylaw3_NetTurns.f
  simp only [shown_true, Option.bind_some, if_true]
  by_cases hl : (l.length : Int) > 3000
  · refine Ev.step (f := fun _ => some true) (fun k => ?_) (Ev.now _)
    simp only [racewaylaw3_NetTurns.j0]
    rw [decide_eq_true hl, if_pos rfl]
  have hl3 : l.length ≤ 3000 := by omega
  have hf2 : ∀ a ∈ l, -9223372036854775808 ≤ a.f2 ∧ a.f2 ≤ 9223372036854775807 := fun a ha => wf_bounds (w3 a ha).2.2
  obtain ⟨c, hc⟩ := check_some n s t hf2
  have hcopy : net_Copy.f n s t l = some (n, s, t, l) := by
    have hb : l.length < 5864062014805 := by omega
    simp [net_Copy.f, cloneArc.f, hb]
  have lo := arcsOf_len (p := (·.f0)) (v := v) l 0
  have li := arcsOf_len (p := (·.f1)) (v := v) l 0
  rw [decide_eq_false hl]
  have last : Ev (fun k => racewaylaw3_NetTurns.j1 k false n s t l) true := by
    refine Ev.step (fun k => ?_) (xor_loop (n := n) (s := s) (t := t) hl3 l.length 0 (by omega))
    simp only [racewaylaw3_NetTurns.j1, hcopy, Option.bind_some]
    simp
  refine Ev.step (f := ?g) (fun k => ?h) ?e
  case h =>
    simp only [racewaylaw3_NetTurns.j0]
    rw [if_neg (by simp)]
  case e =>
    simp only [turn_eq (show l.length ≤ 1000000 by omega), turn_eq (show (l.map turnArc).length ≤ 1000000 by rw [List.length_map]; omega), Option.bind_some, turn_turn, same_self, if_true]
    rw [out_eq (show (l.map turnArc).length ≤ 3001 by rw [List.length_map]; omega), in_eq (show l.length ≤ 3001 by omega), in_eq (show (l.map turnArc).length ≤ 3001 by rw [List.length_map]; omega), out_eq (show l.length ≤ 3001 by omega), arcsOf_turn0, arcsOf_turn1, check_turn, hc]
    simp only [Option.bind_some]
    refine Ev.bind (samei_ev _ _ (by omega)) ?_
    simp only [decide_true, if_true]
    refine Ev.bind (samei_ev _ _ (by omega)) ?_
    simp only [decide_true, if_true]
    simp only [bne_self_eq_false]
    exact last
end Go.Proofs.Ytjbeofcgnnlllaa.Pure
