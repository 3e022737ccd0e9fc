/- Plain lists and numbers, for the law DecompTwice: no program and no memory. -/
-- slimm
import Derived.Test.YtnjdjnoncoeffaaPDecompTwicex0
import Derived.Test.YtnjdjnoncoeffaaPDecompTwicex28
import Derived.Test.YtnjdjnoncoeffaaMDecompTwiceAll
set_option linter.unusedVariables false
namespace Go.Proofs.Ytnjdjnoncoeffaa.Pure
open Go.RowKit Go.Proofs.Ytnjdjnoncoeffaa.PDecompTwice Go.Proofs.YtnjdjnoncoeffaaW.PrintWords Go.Proofs.YtnjdjnoncoeffaaW.PrintLast
theorem short_arcs {n s t : Int} {l : List S30} {its : List S36} (hll : l.length ≤ 2000) (h : ∀ it ∈ its, ItOk n s t l it) : ∀ it ∈ its.map cvt, it.f1.length ≤ 1000000 := fun it hit => by
 obtain ⟨x, hx, rfl⟩ := List.mem_map.1 hit
 have hok := h x hx
 have := nodup_bound (k := l.length) hok.nod hok.rng
 show x.f1.length ≤ 1000000
 omega
theorem DecompTwice : racewaylaw15_DecompTwice.Pure := by
 intro a0 a1 l2 l3 w0 w1 _ hw2 _ _ hw3
 obtain ⟨n, s, t, arcs, hmade, hn2, hn9, R, hal, _, hcap⟩ := made_ev w0 w1 hw2
 obtain ⟨f, F, _, hrouted⟩ := routed_ev R (fun a ha => by have := hcap a ha; omega) hw3
 obtain ⟨m, hm⟩ : ∃ m : Nat, (m : Int) = n + 1 := ⟨(n + 1).toNat, by omega⟩
 obtain ⟨v, hv⟩ : ∃ v, exc arcs f t = v := ⟨_, rfl⟩
 have V : Vf n s t arcs f v := ⟨F, hv, by rw [ends_zero R F, hv]⟩
 obtain ⟨its, hp⟩ := peel_all R hm _ f _ V (Nat.le_refl _)
 have hcount : ∀ {left : List Int} {value : Int} {jts : List S36}, Vf n s t arcs left value → Peel n s t arcs m left value jts → jts.length ≤ 1000000 := fun {left value jts} hv hh => by
  have h1 := hh.few
  have h2 := cntP_len left
  have h3 := hv.flow.within.len
  have h4 : Nz value ≤ 1 := by unfold Nz; split <;> omega
  omega
 have hsplit := peel_split R hm V hp
 obtain ⟨ht, hok⟩ := peel_tot R hp F.within.nonneg
 have hil := hcount V hp
 have hsum := sum_ev R F.within hok hil ht
 have has := as_ev hil
 have hsame := same15_ev (x := its.map cvt) (by rw [List.length_map]; exact hil) (short_arcs R.len hok)
 have hj : Ev (fun k => racewaylaw15_DecompTwice.j0 k its false n s t arcs) true := by
  cases hp with
  | done _ =>
   refine Ev.step (f := fun _ => some true) (fun k => ?_) (Ev.now _)
   simp only [racewaylaw15_DecompTwice.j0]
   rw [if_neg (by decide), if_pos (by simp)]
  | @step _ left1 _ value1 it jts hpos _ P htake V1 hp1 =>
   obtain ⟨ht1, hok1⟩ := peel_tot R hp1 V1.flow.within.nonneg
   have hjl := hcount V1 hp1
   have hsum1 := sum_ev R V1.flow.within hok1 hjl ht1
   have hsplit1 := peel_split R hm V1 hp1
   have has1 := as_ev hjl
   have hsame1 := same15_ev (x := jts.map cvt) (by rw [List.length_map]; exact hjl) (short_arcs R.len hok1)
   refine Ev.step (f := ?g) (fun k => ?h) ?e
   case h =>
    simp only [racewaylaw15_DecompTwice.j0]
    rw [if_neg (by decide), if_neg (by rw [List.length_cons]; omega), if_pos (by rw [List.length_cons]; omega), List.drop_succ_cons, List.drop_zero]
   case e =>
    refine Ev.bind hsum1 ?_
    refine Ev.bind hsplit1 ?_
    simp only [if_true]
    refine Ev.bind has1 ?_
    refine Ev.bind has1 ?_
    refine Ev.bind hsame1 ?_
    exact Ev.now _
 have h : Ev (fun k => racewaylaw15_DecompTwice.f k a0 a1 l2 l3) true := by
  unfold racewaylaw15_DecompTwice.f
  refine Ev.bind shown15_ev ?_
  simp only [if_true]
  refine Ev.bind hmade ?_
  refine Ev.bind hrouted ?_
  refine Ev.bind hsplit ?_
  refine Ev.bind hsum ?_
  refine Ev.bind hsplit ?_
  simp only [if_true]
  refine Ev.bind has ?_
  refine Ev.bind has ?_
  refine Ev.bind hsame ?_
  exact hj
 exact Ev.rounds h
end Go.Proofs.Ytnjdjnoncoeffaa.Pure
