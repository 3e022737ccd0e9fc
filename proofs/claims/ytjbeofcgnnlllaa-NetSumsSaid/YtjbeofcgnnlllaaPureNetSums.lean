/- Plain lists and numbers, for the law NetSums: no program and no memory. -/
import Derived.Test.YtjbeofcgnnlllaaPNetSumsx9
import Derived.Test.YtjbeofcgnnlllaaPNetSumsx9
import Derived.Test.YtjbeofcgnnlllaaPNetSumsx9
import Derived.Test.YtjbeofcgnnlllaaPNetSumsx9
import Derived.Test.YtjbeofcgnnlllaaPNetSumsx9
import Derived.Test.YtjbeofcgnnlllaaPNetSumsx9
import Derived.Test.YtjbeofcgnnlllaaMNetSumsBase
import Derived.Test.YtjbeofcgnnlllaaMNetSumsPick
namespace Go.Proofs.Ytjbeofcgnnlllaa.Pure
open Go.RowKit Go.Proofs.Ytjbeofcgnnlllaa.PNetSums Go.Proofs.YtjbeofcgnnlllaaW.PrintWords Go.Proofs.YtjbeofcgnnlllaaW.PrintLast
theorem shown_true : racewaylaw3_shown.f = some true := by
  unfold racewaylaw3_shown.f
  simp [net_Check.f, chkArcs, net_Same.f, eqArcs]
theorem wrap_id {x : Int} (h0 : -9223372036854775808 ≤ x) (h1 : x ≤ 9223372036854775807) : wrap64 x = x := by unfold wrap64; omega
theorem loop_end (x1 : Int) (h0 : -9223372036854775808 ≤ x1) (h1 : x1 ≤ 9223372036854775807) (arcs : List S28) (hl : arcs.length ≤ 50) (hg : ∀ a ∈ arcs, GoodArc 2 a) (hs : sumCap arcs = 4611686018427387903) (m x8 : Int) (k : Nat) :
    racewaylaw3_NetSums.l0 (k + 1) x1 m x8 m 2 2 1 arcs = some true := by
  have hR : Right 2 2 1 arcs := ⟨by omega, by omega, by omega, by omega, by omega, by omega, by omega, by omega, hg, by omega⟩
  simp only [racewaylaw3_NetSums.l0]
  rw [if_neg (by omega), hR.check]
  simp only [Option.bind_some, if_true]
  rw [pick_eq h0 h1 (by omega)]
  simp only [Option.bind_some]
  rw [if_pos (by omega)]
  have hp := pk_range (c := x1) (n := 3) (by omega)
  have hc : net_Check.f 2 2 1 (arcs ++ [(⟨1, 1, pk x1 3⟩ : S28)]) = some (if pk x1 3 = 0 then 0 else 7) := by
    unfold net_Check.f
    rw [if_neg (by omega), if_neg (by omega), if_neg (by omega), if_neg (by simp; omega), chk_app hg (by omega) (by omega), hs]
    simp only [chkArcs]
    rw [if_pos ⟨by omega, by omega⟩, if_pos ⟨by omega, by omega, by omega, by omega⟩, if_neg (by omega)]
    by_cases hz : pk x1 3 = 0
    · rw [if_neg (by omega), if_pos hz]
    · rw [if_pos (by omega), if_neg hz]
  rw [hc]
  simp only [Option.bind_some]
  by_cases hz : pk x1 3 = 0
  · simp [hz]
  · simp [hz]
theorem loop_goes (x1 : Int) (h0 : -9223372036854775808 ≤ x1) (h1 : x1 ≤ 9223372036854775807) (m : Int) (hm : m ≤ 50) (d : Nat) : ∀ (i left : Int) (arcs : List S28) (k : Nat), 0 ≤ i → i + d = m → 0 < d → (arcs.length : Int) = i →
    (∀ a ∈ arcs, GoodArc 2 a) → 0 ≤ left → sumCap arcs + left = 4611686018427387903 → d < k → racewaylaw3_NetSums.l0 k x1 m left i 2 2 1 arcs = some true := by
  induction d with
  | zero => intro i left arcs k _ _ h; omega
  | succ d ih =>
    intro i left arcs k hi hd _ hl hg hleft hs hk
    obtain ⟨k, rfl⟩ : ∃ j, k = j + 1 := ⟨k - 1, by omega⟩
    have hsn := sumCap_nonneg hg
    have b0 : 0 ≤ Int.tmod i 2 ∧ Int.tmod i 2 < 2 := ⟨Int.tmod_nonneg _ hi, Int.tmod_lt_of_pos _ (by omega)⟩
    have b1 : Int.tdiv i 2 = i / 2 := Int.tdiv_eq_ediv_of_nonneg hi
    have b2 : wrap64 (Int.tdiv i 2) = i / 2 := by rw [b1]; exact wrap_id (by omega) (by omega)
    have b3 : 0 ≤ Int.tmod (i / 2) 2 ∧ Int.tmod (i / 2) 2 < 2 := ⟨Int.tmod_nonneg _ (by omega), Int.tmod_lt_of_pos _ (by omega)⟩
    have b4 : wrap64 (1 + Int.tmod i 2) = 1 + Int.tmod i 2 := wrap_id (by omega) (by omega)
    have b5 : wrap64 (1 + Int.tmod (i / 2) 2) = 1 + Int.tmod (i / 2) 2 := wrap_id (by omega) (by omega)
    have b6 : wrap64 (i + 1) = i + 1 := wrap_id (by omega) (by omega)
    have b7 : Int.tdiv left 2 = left / 2 := Int.tdiv_eq_ediv_of_nonneg hleft
    have b8 : wrap64 (left / 2) = left / 2 := wrap_id (by omega) (by omega)
    have b9 : wrap64 (left - left / 2) = left - left / 2 := wrap_id (by omega) (by omega)
    have b10 : wrap64 (m - 1) = m - 1 := wrap_id (by omega) (by omega)
    simp only [racewaylaw3_NetSums.l0]
    rw [if_pos (by omega), b10, b2, b4, b5, b6, b7, b8, b9]
    by_cases hlast : i = m - 1
    · rw [if_pos hlast, if_pos (by omega)]
      obtain ⟨k, rfl⟩ : ∃ j, k = j + 1 := ⟨k - 1, by omega⟩
      have hm' : i + 1 = m := by omega
      rw [hm']
      refine loop_end x1 h0 h1 _ (by simp; omega) ?_ (by rw [sumCap_app]; simp only [sumCap]; omega) m _ k
      intro a ha
      rcases List.mem_append.1 ha with ha | ha
      · exact hg a ha
      · have := List.mem_singleton.1 ha
        subst this
        exact ⟨by show (1 : Int) ≤ 1 + _; omega, by show (1 : Int) + _ ≤ 2; omega, by show (1 : Int) ≤ 1 + _; omega, by show (1 : Int) + _ ≤ 2; omega, hleft⟩
    · rw [if_neg hlast, if_pos (by omega)]
      refine ih (i + 1) _ _ k (by omega) (by omega) (by omega) (by simp; omega) ?_ (by omega) (by rw [sumCap_app]; simp only [sumCap]; omega) (by omega)
      intro a ha
      rcases List.mem_append.1 ha with ha | ha
      · exact hg a ha
      · have := List.mem_singleton.1 ha
        subst this
        exact ⟨by show (1 : Int) ≤ 1 + _; omega, by show (1 : Int) + _ ≤ 2; omega, by show (1 : Int) ≤ 1 + _; omega, by show (1 : Int) + _ ≤ 2; omega, by show (0 : Int) ≤ left / 2; omega⟩
theorem NetSums : racewaylaw3_NetSums.Pure := by
  intro a0 a1 w0 w1
  obtain ⟨l0, u0⟩ := wf_bounds w0
  obtain ⟨l1, u1⟩ := wf_bounds w1
  refine ⟨100, ?_⟩
  unfold racewaylaw3_NetSums.f
  rw [shown_true]
  simp only [Option.bind_some, if_true]
  rw [pick_eq l0 u0 (by omega)]
  simp only [Option.bind_some]
  have hp := pk_range (c := a0) (n := 50) (by omega)
  rw [wrap_id (by omega) (by omega)]
  exact loop_goes a1 l1 u1 (1 + pk a0 50) (by omega) (1 + pk a0 50).toNat 0 _ [] 100 (by omega) (by omega) (by omega) rfl (fun a ha => by cases ha) (by omega) (by simp [sumCap]) (by omega)
end Go.Proofs.Ytjbeofcgnnlllaa.Pure
