/- Plain lists and numbers, for the law NetParts: no program and no memory. -/
import Derived.Test.YtlkpapkcgafgeaaPNetPartsx0
import Derived.Test.YtlkpapkcgafgeaaPNetPartsx6
import Derived.Test.YtlkpapkcgafgeaaPNetPartsx12
import Derived.Test.YtlkpapkcgafgeaaPNetPartsx15
import Derived.Test.YtlkpapkcgafgeaaPNetPartsx16
import Derived.Test.YtlkpapkcgafgeaaPNetPartsx17
import Derived.Test.YtlkpapkcgafgeaaMNetPartsAll
set_option linter.unusedVariables false
namespace Go.Proofs.Ytlkpapkcgafgeaa.Pure
open Go.RowKit Go.Proofs.Ytlkpapkcgafgeaa.PNetParts Go.Proofs.YtlkpapkcgafgeaaW.PrintWords Go.Proofs.YtlkpapkcgafgeaaW.PrintLast
theorem arcsOf_in {p : S34 → Int} {v : Int} : ∀ (l : List S34) (i : Nat) (r : Int), r ∈ arcsOf p v l i → (i : Int) ≤ r ∧ r < (i : Int) + (l.length : Int) ∧ p (rd_T34 l (r - (i : Int))) = v
  | [], _, _, h => by simp [arcsOf] at h
  | a :: l, i, r, h => by
    have tail : r ∈ arcsOf p v l (i + 1) → (i : Int) ≤ r ∧ r < (i : Int) + ((a :: l).length : Int) ∧ p (rd_T34 (a :: l) (r - (i : Int))) = v := fun h => by
      obtain ⟨h0, h1, h2⟩ := arcsOf_in l (i + 1) r h
      refine ⟨by omega, by rw [List.length_cons]; omega, ?_⟩
      have e : rd_T34 (a :: l) (r - (i : Int)) = rd_T34 l (r - ((i + 1 : Nat) : Int)) := by
        unfold rd_T34
        rw [show (r - (i : Int)).toNat = (r - ((i + 1 : Nat) : Int)).toNat + 1 by omega]
        rfl
      rw [e]
      exact h2
    simp only [arcsOf] at h
    by_cases c : p a = v
    · rw [if_pos c] at h
      rcases List.mem_cons.1 h with rfl | h
      · refine ⟨by omega, by rw [List.length_cons]; omega, ?_⟩
        rw [Int.sub_self]
        exact c
      · exact tail h
    · rw [if_neg c] at h
      exact tail h
theorem arcsOf_sorted {p : S34 → Int} {v : Int} : ∀ (l : List S34) (i : Nat), (arcsOf p v l i).Pairwise (· < ·)
  | [], _ => List.Pairwise.nil
  | a :: l, i => by
    have ih := arcsOf_sorted (p := p) (v := v) l (i + 1)
    simp only [arcsOf]
    split
    · refine List.pairwise_cons.2 ⟨fun r hr => ?_, ih⟩
      have := (arcsOf_in l (i + 1) r hr).1
      omega
    · exact ih
theorem arcsOf_none {p : S34 → Int} {v : Int} : ∀ (l : List S34) (i : Nat), (∀ a ∈ l, p a ≠ v) → arcsOf p v l i = []
  | [], _, _ => rfl
  | a :: l, i, h => by
    simp only [arcsOf]
    rw [if_neg (h a List.mem_cons_self)]
    exact arcsOf_none l (i + 1) (fun b hb => h b (List.mem_cons_of_mem _ hb))
theorem arcsOf_sum {p : S34 → Int} {n : Nat} : ∀ (l : List S34) (i : Nat), (∀ a ∈ l, 1 ≤ p a ∧ p a ≤ (n : Int)) → sumTo (fun v => ((arcsOf p v l i).length : Int)) n = (l.length : Int)
  | [], i, _ => by
    have : sumTo (fun v => ((arcsOf p v [] i).length : Int)) n = sumTo (fun _ => 0) n := sumTo_ext (fun v _ _ => rfl)
    rw [this, sumTo_zero]; rfl
  | a :: l, i, h => by
    have ih := arcsOf_sum l (i + 1) (fun b hb => h b (List.mem_cons_of_mem _ hb))
    have ha := h a List.mem_cons_self
    have e : sumTo (fun v => ((arcsOf p v (a :: l) i).length : Int)) n = sumTo (fun v => (if p a = v then 1 else 0) + ((arcsOf p v l (i + 1)).length : Int)) n := sumTo_ext (fun v _ _ => by
      simp only [arcsOf]
      split
      · rw [List.length_cons]; omega
      · omega)
    rw [e, sumTo_add, sumTo_one (p a) 1 ha.1 ha.2, ih, List.length_cons]
    omega
theorem sumTo_le {g : Int → Int} {M : Int} (h : ∀ v, 0 ≤ g v ∧ g v ≤ M) (hM : 0 ≤ M) : ∀ n : Nat, n ≤ 9 → 0 ≤ sumTo g n ∧ sumTo g n ≤ n * M
  | 0, _ => by simp [sumTo]
  | n + 1, hn => by
    have h1 := sumTo_le h hM n (by omega)
    have h2 := h ((n : Int) + 1)
    have e : ((n + 1 : Nat) : Int) * M = n * M + M := by rw [Int.natCast_succ, Int.add_mul, Int.one_mul]
    rw [e]
    simp only [sumTo]
    omega
theorem copy_eq {n s t : Int} {l : List S34} (h : l.length ≤ 100) : net_Copy.f n s t l = some (n, s, t, l) := by
  unfold net_Copy.f cloneArc.f
  rw [if_pos (by omega)]
  rfl
section
variable {n s t : Int} {l : List S34} {l2 : List S50} {a3 : Int}
theorem Right.more (R : Right n s t l) (hl : l.length ≤ 24) : Right n s t (l ++ [(⟨t, s, 0⟩ : S34)]) := by
  refine ⟨R.n2, R.n500, R.s1, R.sn, R.t1, R.tn, R.ne, by rw [List.length_append, List.length_singleton]; omega, fun a ha => ?_, ?_⟩
  · rcases List.mem_append.1 ha with ha | ha
    · exact R.arcs a ha
    · obtain rfl := List.mem_singleton.1 ha
      exact ⟨R.t1, R.tn, R.s1, R.sn, Int.le_refl _⟩
  · rw [sumCap_app]
    have := R.sum
    simp only [sumCap]
    omega
theorem Right.less (R : Right n s t l) {k : Nat} (hk : k < l.length) : Right n s t (l.take k ++ l.drop (k + 1)) := by
  have e : l = l.take k ++ (l[k] :: l.drop (k + 1)) := by rw [← List.drop_eq_getElem_cons hk, List.take_append_drop]
  have hs : sumCap l = sumCap (l.take k) + ((l[k]).f2 + sumCap (l.drop (k + 1))) := by
    have h := sumCap_app (l.take k) (l[k] :: l.drop (k + 1))
    rw [← e] at h
    rw [h]
    rfl
  have hg := (R.arcs _ (List.getElem_mem hk)).2.2.2.2
  have hR := R.sum
  have hl := R.len
  refine ⟨R.n2, R.n500, R.s1, R.sn, R.t1, R.tn, R.ne, by rw [List.length_append, List.length_take, List.length_drop]; omega, fun a ha => ?_, ?_⟩
  · rcases List.mem_append.1 ha with ha | ha
    · exact R.arcs a (List.mem_of_mem_take ha)
    · exact R.arcs a (List.mem_of_mem_drop ha)
  · rw [sumCap_app]
    omega
theorem parts_last (R : Right n s t l) (hl : l.length ≤ 24) (hl2 : l.length = min l2.length 24) (w3 : (Lit.int .i64 a3).wf = true) : Ev (fun k => racewaylaw3_NetParts.j3 k l2 a3 false n s t l) true := by
  obtain ⟨b0, b1⟩ := wf_bounds w3
  have hc : net_Copy.f n s t l = some (n, s, t, l) := copy_eq (by omega)
  have hm := (R.more hl).check
  have hns : net_Same.f n s t (l ++ [(⟨t, s, 0⟩ : S34)]) n s t l = some false := same_not (fun _ _ _ h => by
    have := congrArg List.length h
    rw [List.length_append, List.length_singleton] at this
    omega)
  refine Ev.step (f := fun _ => some true) (fun k => ?_) (Ev.now _)
  simp only [racewaylaw3_NetParts.j3, hc, Option.bind_some]
  rw [if_neg (by decide), if_pos (by omega), hm]
  by_cases c : (l2.length : Int) > 0
  · rw [if_pos c]
    have p := pk_range (c := a3) (n := (l.length : Int)) (by omega)
    have hpk := pick_eq b0 b1 (show (0 : Int) < (l.length : Int) by omega)
    obtain ⟨a, ha⟩ : ∃ a, pk a3 (l.length : Int) = a := ⟨_, rfl⟩
    rw [ha] at p hpk
    have hle := (R.less (k := a.toNat) (by omega)).check
    have hw : wrap64 (a + 1) = a + 1 := wrap_id (by omega) (by omega)
    have ht : (a + 1).toNat = a.toNat + 1 := by omega
    rw [hpk]
    simp only [Option.bind_some, List.nil_append, hw, ht, hle, hns, if_true, Bool.not_false]
    rw [if_pos (by omega), if_pos (by omega), if_pos (by rw [List.length_take, List.length_nil]; omega), if_pos (by omega), if_pos (by omega), if_pos (by rw [List.length_take, List.length_drop]; omega)]
  · rw [if_neg c]
    simp only [Option.bind_some, R.check, hns, if_true, Bool.not_false]
theorem parts_row {v : Int} {x11 x12 : Int} {T : List Int} (hl : l.length ≤ 24) (hT : T = arcsOf (·.f0) v l 0) (H : Ev (fun k => racewaylaw3_NetParts.l0 k l2 a3 (wrap64 (x11 + (T.length : Int))) (wrap64 (x12 + ((arcsOf (·.f1) v l 0).length : Int))) (wrap64 (v + 1)) n s t l) true) (d : Nat) :
    ∀ i : Nat, i + d = T.length → Ev (fun k => racewaylaw3_NetParts.l1 k l2 a3 x11 x12 v T (i : Int) n s t l) true := by
  have hTl := arcsOf_len (p := (·.f0)) (v := v) l 0
  rw [← hT] at hTl
  induction d with
  | zero =>
    intro i hi
    refine Ev.step (fun k => ?_) H
    simp only [racewaylaw3_NetParts.l1]
    rw [if_neg (by omega), in_eq (by omega)]
    rfl
  | succ d ih =>
    intro i hi
    have hiT : i < T.length := by omega
    have hm : rd T (i : Int) ∈ T := by rw [rd_get hiT]; exact List.getElem_mem hiT
    obtain ⟨h0, h1, h2⟩ := arcsOf_in l 0 (rd T (i : Int)) (by rw [← hT]; exact hm)
    have h2' : (rd_T34 l (rd T (i : Int))).f0 = v := by simpa using h2
    refine Ev.step (fun k => ?_) (ih (i + 1) (by omega))
    simp only [racewaylaw3_NetParts.l1]
    rw [if_pos (by omega), if_pos (by omega), if_neg (by omega), if_neg (by omega), if_pos (by omega), if_pos (by omega), if_pos h2', wrap_id (x := (i : Int) + 1) (by omega) (by omega)]
    by_cases c : (i : Int) > 0
    · have hs := List.pairwise_iff_getElem.1 (by rw [hT]; exact arcsOf_sorted l 0 : T.Pairwise (· < ·)) (i - 1) i (by omega) hiT (by omega)
      have e : rd T ((i : Int) - 1) = T[i - 1] := by
        rw [show (i : Int) - 1 = ((i - 1 : Nat) : Int) by omega, rd_get (by omega)]
      rw [if_pos c, wrap_id (x := (i : Int) - 1) (by omega) (by omega), if_pos (by omega), if_pos (by omega), if_neg (by rw [e, rd_get hiT]; omega)]
      rfl
    · rw [if_neg c]
      rfl
theorem parts_loop (R : Right n s t l) (h9 : n ≤ 9) (hl : l.length ≤ 24) (hl2 : l.length = min l2.length 24) (w3 : (Lit.int .i64 a3).wf = true) (d : Nat) : ∀ v : Nat, (v : Int) + d = n →
    Ev (fun k => racewaylaw3_NetParts.l0 k l2 a3 (sumTo (fun u => ((arcsOf (·.f0) u l 0).length : Int)) v) (sumTo (fun u => ((arcsOf (·.f1) u l 0).length : Int)) v) ((v : Int) + 1) n s t l) true := by
  have n2 := R.n2
  induction d with
  | zero =>
    intro v hv
    have hn : n = ((v : Nat) : Int) := by omega
    have s0 := arcsOf_sum (p := (·.f0)) (n := v) l 0 (fun a ha => by have := R.arcs a ha; unfold GoodArc at this; show 1 ≤ a.f0 ∧ a.f0 ≤ (v : Int); omega)
    have s1 := arcsOf_sum (p := (·.f1)) (n := v) l 0 (fun a ha => by have := R.arcs a ha; unfold GoodArc at this; show 1 ≤ a.f1 ∧ a.f1 ≤ (v : Int); omega)
    have z0 := arcsOf_none (p := (·.f0)) (v := 0) l 0 (fun a ha => by have := R.arcs a ha; unfold GoodArc at this; show a.f0 ≠ 0; omega)
    have z1 := arcsOf_none (p := (·.f1)) (v := n + 1) l 0 (fun a ha => by have := R.arcs a ha; unfold GoodArc at this; show a.f1 ≠ n + 1; omega)
    refine Ev.step (fun k => ?_) (parts_last R hl hl2 w3)
    simp only [racewaylaw3_NetParts.l0]
    rw [if_neg (by omega), if_pos s0, if_pos s1, wrap_id (x := n + 1) (by omega) (by omega), out_eq (by omega), in_eq (by omega), z0, z1]
    have hz : (wrap64 (((0 : Nat) : Int) + ((0 : Nat) : Int)) != 0) = false := by
      rw [wrap_id (by omega) (by omega)]
      rfl
    simp only [Option.bind_some, List.length_nil, hz]
  | succ d ih =>
    intro v hv
    have hn := ih (v + 1) (by omega)
    have b0 := sumTo_le (g := fun u => ((arcsOf (·.f0) u l 0).length : Int)) (M := 24) (fun u => by have := arcsOf_len (p := (·.f0)) (v := u) l 0; omega) (by decide) v (by omega)
    have b1 := sumTo_le (g := fun u => ((arcsOf (·.f1) u l 0).length : Int)) (M := 24) (fun u => by have := arcsOf_len (p := (·.f1)) (v := u) l 0; omega) (by decide) v (by omega)
    have l0 := arcsOf_len (p := (·.f0)) (v := (v : Int) + 1) l 0
    have l1 := arcsOf_len (p := (·.f1)) (v := (v : Int) + 1) l 0
    have hrow := parts_row (n := n) (s := s) (t := t) (l2 := l2) (a3 := a3) (v := (v : Int) + 1) (x11 := sumTo (fun u => ((arcsOf (·.f0) u l 0).length : Int)) v) (x12 := sumTo (fun u => ((arcsOf (·.f1) u l 0).length : Int)) v) hl rfl (by
      rw [wrap_id (x := (v : Int) + 1 + 1) (by omega) (by omega), wrap_id (by omega) (by omega), wrap_id (by omega) (by omega)]
      exact hn) (arcsOf (·.f0) ((v : Int) + 1) l 0).length 0 (by omega)
    refine Ev.step (fun k => ?_) hrow
    simp only [racewaylaw3_NetParts.l0]
    rw [if_pos (by omega), out_eq (by omega)]
    rfl
end
theorem NetParts : racewaylaw3_NetParts.Pure := by
  intro a0 a1 l2 a3 w0 w1 m2 w2 w3
  obtain ⟨n, s, t, l, hmade, n2, n9, R, hl, hl2, hcap⟩ := made_ev w0 w1 w2
  refine Ev.rounds ?_
  unfold racewaylaw3_NetParts.f
  simp only [shown_true, Option.bind_some, if_true]
  refine Ev.bind hmade ?_
  have hck := R.check
  have hsm := same_self n s t l
  simp only [hck, hsm, Option.bind_some, if_true, Bool.not_true]
  have h := parts_loop (a3 := a3) R n9 hl hl2 w3 n.toNat 0 (by omega)
  refine Ev.step (fun k => ?_) h
  simp only [racewaylaw3_NetParts.j0]
  rw [if_neg (by decide)]
  rfl
end Go.Proofs.Ytlkpapkcgafgeaa.Pure
