/- splay: the iterator over a tree: its contract (by hand; printed by mkS16.py). -/
import Derived.Test.YtcnmbgijehnchaaS15
set_option linter.unusedVariables false
set_option linter.unusedSimpArgs false
namespace Go.Proofs.YtcnmbgijehnchaaW.Splay
open Go.RowKit Go.Shelf Go.Proofs.YtcnmbgijehnchaaW.PrintWords Go.Proofs.YtcnmbgijehnchaaW.PrintLast Go.Proofs.YtcnmbgijehnchaaW.PrintMore Go.Proofs.YtcnmbgijehnchaaW.Mine
attribute [local go_sem] max2_int min2_int max_two min_two max_three min_three max_four min_four Oper.semAt_some
theorem info_level : (Try.prog.info? 79).map (fun i => (i.zero, i.size, i.bytes)) = some (some (.agg #[.int .i64 0, .bool false]), 2, 16) := by kernel_rfl
/-- Levels, as cells and as a list. -/
def lvls {N : Nat} (ws : List (Fin N × Bool)) : List Value := ws.flatMap fun p => [.int .i64 (p.1.val : Int), .bool p.2]
def lw {N : Nat} (ws : List (Fin N × Bool)) : List (Int × Bool) := ws.map fun p => ((p.1.val : Int), p.2)
theorem lvls_snoc {N : Nat} (ws : List (Fin N × Bool)) (p : Fin N × Bool) : lvls (ws ++ [p]) = lvls ws ++ [.int .i64 (p.1.val : Int), .bool p.2] := by simp [lvls]
theorem lw_snoc {N : Nat} (ws : List (Fin N × Bool)) (p : Fin N × Bool) : lw (ws ++ [p]) = lw ws ++ [((p.1.val : Int), p.2)] := by simp [lw]
theorem lvls_length {N : Nat} (ws : List (Fin N × Bool)) : (lvls ws).length = ws.length * 2 := by
  induction ws with
  | nil => rfl
  | cons p ws ih =>
    have e : lvls (p :: ws) = [.int .i64 (p.1.val : Int), .bool p.2] ++ lvls ws := rfl
    rw [e, List.length_append, ih, List.length_cons, List.length_cons, List.length_cons, List.length_nil]
    omega
theorem allLoop_len (s : Fo) : ∀ (k : Nat) (ws : List (Int × Bool)) (x : Int) (tn : Bool) (out L : List Int), allLoop s k ws x tn out = some L → out.length ≤ L.length
  | 0, ws, x, tn, out, L, h => by simp [allLoop] at h
  | k + 1, ws, x, tn, out, L, h => by
    rw [allLoop] at h
    split at h
    · split at h
      · cases h
        exact Nat.le_refl _
      · have := allLoop_len s k _ _ _ _ _ h
        rw [List.length_append, List.length_singleton] at this
        omega
    · exact allLoop_len s k _ _ _ _ _ h
theorem allLoop_push (s : Fo) (k : Nat) (ws : List (Int × Bool)) {x : Int} (tn : Bool) (out : List Int) (hx : x ≠ -1) : allLoop s (k + 1) ws x tn out = allLoop s k (ws ++ [(x, tn)]) (belowN s x 0 tn).1 (belowN s x 0 tn).2 out := by rw [allLoop, if_neg hx]
theorem allLoop_pop (s : Fo) (k : Nat) (ws : List (Int × Bool)) (y : Int) (ty tn : Bool) (out : List Int) : allLoop s (k + 1) (ws ++ [(y, ty)]) (-1) tn out = allLoop s k ws (belowN s y 1 ty).1 (belowN s y 1 ty).2 (out ++ [y]) := by
  rw [allLoop, if_pos rfl, List.reverse_append]
  show allLoop s k ws.reverse.reverse _ _ _ = _
  rw [List.reverse_reverse]
theorem Good.below {N : Nat} {s : Fo} (h : Good N s) {i : Nat} (hi : i < N) {sd : Int} (hsd : sd = 0 ∨ sd = 1) (tn : Bool) : Ix N (belowN s (i : Int) sd tn).1 := by
  obtain ⟨_, b, c⟩ := h i hi
  unfold belowN dn
  rcases hsd with rfl | rfl <;> cases tn
  · exact b
  · exact c
  · exact c
  · exact b
/-- The last cells of a row of one's own. -/
theorem own_pop {W : World} {base e n : Nat} {v a b : Value} {xs : List Value} (h : W.ownsRow base e 2 v (n + 1) (xs ++ [a, b])) (hx : xs.length = n * 2) :
    ∃ g cap, v = .slice (some ⟨g, 0, none⟩) (n + 1) cap ∧ base ≤ g ∧ g < W.heap.size ∧ n + 1 ≤ cap ∧ W.cell? ⟨g, n * 2, none⟩ = some a ∧ W.cell? ⟨g, n * 2 + 1, none⟩ = some b ∧ W.ownsRow base e 2 (.slice (some ⟨g, 0, none⟩) n cap) n xs := by
  obtain ⟨hl, ⟨_, hn⟩ | ⟨g, cap, cur, hv, hb, hh, hc1, hc2, hc3, ht⟩⟩ := h
  · omega
  · have hcs : (n + 1) * 2 ≤ cur.toList.length := by
      rw [Array.length_toList, hc3]
      exact Nat.mul_le_mul_right 2 hc1
    have at_ : ∀ j u, (xs ++ [a, b])[j]? = some u → W.cell? ⟨g, j, none⟩ = some u := fun j u hj => by
      rw [← ht, List.getElem?_take] at hj
      split at hj
      · rw [Array.getElem?_toList] at hj
        exact (blk_cell hh j).trans hj
      · cases hj
    refine ⟨g, cap, hv, hb, (Array.getElem?_eq_some_iff.1 hh).1, hc1, at_ _ _ (by rw [List.getElem?_append_right (by omega), hx]; simp), at_ _ _ (by rw [List.getElem?_append_right (by omega), hx]; simp), hx, .inr ⟨g, cap, cur, rfl, hb, hh, by omega, hc2, hc3, ?_⟩⟩
    have e_ : (xs ++ [a, b]).take (n * 2) = xs := by rw [List.take_append_of_le_length (Nat.le_of_eq hx.symm), List.take_of_length_le (Nat.le_of_eq hx)]
    have h_ := congrArg (List.take (n * 2)) ht
    rw [List.take_take, Nat.min_eq_left (by omega), e_] at h_
    exact h_
theorem own_kept {W W1 : World} {base e size n : Nat} {v : Value} {xs : List Value} (h : W.ownsRow base e size v n xs) (hh : ∀ g, v.ownBlock = some g → W1.heap[g]? = W.heap[g]?) : W1.ownsRow base e size v n xs := by
  obtain ⟨hl, h0 | ⟨g, cap, cur, hv, hb, hc, h1, h2, h3, h4⟩⟩ := h
  · exact ⟨hl, .inl h0⟩
  · subst hv
    exact ⟨hl, .inr ⟨g, cap, cur, rfl, hb, (hh g rfl).trans hc, h1, h2, h3, h4⟩⟩
theorem own_typed {W : World} {base e size n : Nat} {v : Value} {xs : List Value} (h : W.ownsRow base e size v n xs) : ∀ g, v.ownBlock = some g → base ≤ g ∧ ∃ cs, W.heap[g]? = some (.cells cs e (0, 0)) := fun g hg => by
  obtain ⟨hl, ⟨rfl, _⟩ | ⟨g', cap, cur, rfl, hb, hc, _⟩⟩ := h
  · cases hg
  · cases hg
    exact ⟨hb, cur, hc⟩
theorem own_slice {W : World} {base e size n : Nat} {v : Value} {xs : List Value} (h : W.ownsRow base e size v n xs) : ∃ a c, v = .slice a n c := by
  obtain ⟨hl, ⟨rfl, rfl⟩ | ⟨g', cap, cur, rfl, _⟩⟩ := h
  · exact ⟨_, _, rfl⟩
  · exact ⟨_, _, rfl⟩
/-- What a tree's iterator reads. -/
structure Vz (w0 : World) (gs gn N cap : Nat) (s : Fo) (Br Bx : Nat) (root : Int) (W : World) : Prop where
  sp : Sp 57 60 (og gs gn) w0 W gs gn N cap s
  br : Boxed W Br 3 (.int .i64 root)
  bx : Boxed W Bx 26 (.pointer (some ⟨gs, 0, none⟩))
/-- What a round keeps for a tree's iterator. -/
structure Ky (n0 Br Bx : Nat) (W W' : World) : Prop where
  below : Below n0 W W'
  br : W'.heap[Br]? = W.heap[Br]?
  bx : W'.heap[Bx]? = W.heap[Bx]?
  lv : ∀ (k : Nat) (cs : Array Value), W.heap[k]? = some (.cells cs 79 (0, 0)) → W'.heap[k]? = W.heap[k]?
section
variable {w0 W W1 : World} {gs gn N cap : Nat} {s : Fo} {Br Bx n0 : Nat} {root : Int}
theorem Vz.grown (h : Vz w0 gs gn N cap s Br Bx root W) {row : Option Nat} (hg : W.grownBy W1 row) {M : Nat} (hM : gs < M ∧ gn < M ∧ w0.heap.size ≤ M ∧ Br < M ∧ Bx < M) (hr : ∀ r, row = some r → M ≤ r) : Vz w0 gs gn N cap s Br Bx root W1 :=
  ⟨h.sp.grown hg (fun r e => by have := hr r e; omega), h.br.kept hg (fun e => by have := hr _ e.symm; omega), h.bx.kept hg (fun e => by have := hr _ e.symm; omega)⟩
theorem grown_below (hb : Below W.heap.size W W1) : W.grownBy W1 none := ⟨hb.os, hb.tape, hb.output, hb.size, fun k hk _ => hb.block k hk⟩
theorem Vz.below (h : Vz w0 gs gn N cap s Br Bx root W) (hb : Below W.heap.size W W1) : Vz w0 gs gn N cap s Br Bx root W1 :=
  ⟨h.sp.move hb, h.br.kept (grown_below hb) (by simp), h.bx.kept (grown_below hb) (by simp)⟩
theorem Vz.ky (h : Vz w0 gs gn N cap s Br Bx root W) (hk : Ky n0 Br Bx W W1) (h1 : gs < n0) (h2 : gn < n0) (h3 : w0.heap.size ≤ n0) : Vz w0 gs gn N cap s Br Bx root W1 :=
  ⟨h.sp.two (hk.below.block gs h1) (hk.below.block gn h2) (h.sp.below.trans (hk.below.mono h3)), hk.br.trans h.br, hk.bx.trans h.bx⟩
end
set_option maxHeartbeats 8000000 in
set_option maxRecDepth 100000 in
theorem all1_seq (k : Nat) {w0 w : World} {gs gn N cap : Nat} {s : Fo} {Br Bx n0 : Nat} {root : Int} {L : List Int} (hN : N ≤ 3000) (hgd : Good N s) (hroot : Ix N root) (hk : k ≤ 4000000) (hL : allLoop s k [] root false [] = some L)
    (hV : Vz w0 gs gn N cap s Br Bx root w) (h1 : gs < n0) (h2 : gn < n0) (h3 : w0.heap.size ≤ n0) (h4 : n0 ≤ w.heap.size) :
    SeqY Try.prog 56 #[.pointer (some ⟨Br, 0, none⟩), .pointer (some ⟨Bx, 0, none⟩)] (Ky n0 Br Bx) 79 L w := by
  intro l J W hWb hAb hY hJ0
  have hVW := hV.below hWb
  have hWz := hWb.size
  have hM : gs < W.heap.size ∧ gn < W.heap.size ∧ w0.heap.size ≤ W.heap.size ∧ Br < W.heap.size ∧ Bx < W.heap.size := ⟨by omega, by omega, by omega, hVW.br.lt, hVW.bx.lt⟩
  have HV0 := Aside0.mk hVW
  have HM := Aside0.mk hM
  have HAB := Aside0.mk hAb
  have HY := Aside0.mk hY
  have HJ0 := Aside0.mk hJ0
  have HGD := Aside0.mk hgd
  have HROOT := Aside0.mk hroot
  have HL := Aside0.mk hL
  have HN4 := Aside0.mk (And.intro h1 (And.intro h2 (And.intro h3 h4)))
  have hbr := hVW.br.cell
  have hu79 := Try.underlying79
  clear hV hVW hWb hAb hY hJ0 hgd hroot hL hM hWz h1 h2 h3 h4
  refine callsIn_of_wp Try.func56 rfl trivial ?_ rfl
  simp only [Try.ntmps56, List.size_toArray, List.length_cons, List.length_nil, Nat.reduceAdd, Nat.reduceSub, Array.replicate_succ, Array.replicate_zero, List.push_toArray, List.append_toArray, List.nil_append, List.cons_append]
  gi_wp2
  refine wpIn_loop_rounds (k + 1) (fuel_loop (fun k_ a wr => ∃ u4 u5 u6 u7 u9 u10 u11 u12 u13 u14 u15 u16 u17 u18 u19 u20 u21 u22 u23 u24 u25 u26 u27 u28 u29 u30 u31 u32 u33 u34 u35 u36 u37 u38 u39 u40 u41 u42 u43 u44 u45 u46 u47 u48 u49 u50 u51 u52 u53 u54 u55 : Value, a = { tmps := #[.func (.yield l) #[] #[], .pointer (some ⟨Br, 0, none⟩), .pointer (some ⟨Bx, 0, none⟩), undef, u4, u5, u6, u7, .int .i64 root, u9, u10, u11, u12, u13, u14, u15, u16, u17, u18, u19, u20, u21, u22, u23, u24, u25, u26, u27, u28, u29, u30, u31, u32, u33, u34, u35, u36, u37, u38, u39, u40, u41, u42, u43, u44, u45, u46, u47, u48, u49, u50, u51, u52, u53, u54, u55], defers := [] } ∧ ∃ (kq : Nat) (x : Int) (tn : Bool) (ws : List (Fin N × Bool)) (pre : List Int), u5 = .int .i64 x ∧ u6 = .bool tn ∧ Aside0 (kq ≤ k_ ∧ ws.length + kq ≤ 4000000) ∧ Aside0 (Ix N x) ∧ Aside0 (wr.ownsRow W.heap.size 79 2 u4 ws.length (lvls ws)) ∧ Aside0 (Vz w0 gs gn N cap s Br Bx root wr) ∧ Aside0 (J pre wr) ∧ Aside0 (allLoop s kq (lw ws) x tn pre = some L) ∧ Aside0 (W.heap.size ≤ wr.heap.size)) ?round k _ _ ?start)
  case start =>
    refine ⟨_, _, _, _, _, _, _, _, _, _, _, _, _, _, _, _, _, _, _, _, _, _, _, _, _, _, _, _, _, _, _, _, _, _, _, _, _, _, _, _, _, _, _, _, _, _, _, _, _, _, _, rfl, k, root, false, [], [], rfl, rfl, ⟨⟨Nat.le_refl _, by simpa using hk⟩⟩, HROOT, ⟨⟨rfl, .inl ⟨rfl, rfl⟩⟩⟩, HV0, HJ0, HL, ⟨Nat.le_refl _⟩⟩
  case round =>
    clear hbr HV0 HJ0 HL HROOT hk
    rintro gK a wr ⟨u4, u5, u6, u7, u9, u10, u11, u12, u13, u14, u15, u16, u17, u18, u19, u20, u21, u22, u23, u24, u25, u26, u27, u28, u29, u30, u31, u32, u33, u34, u35, u36, u37, u38, u39, u40, u41, u42, u43, u44, u45, u46, u47, u48, u49, u50, u51, u52, u53, u54, u55, rfl, kq, x, tn, ws, pre, rfl, rfl, HK, HX, HW, HV, HJ, HL, HZ⟩
    obtain ⟨aw, cw, ew⟩ := own_slice HW.out
    subst ew
    obtain ⟨f0, hf0⟩ : ∃ f0, kq = f0 + 1 := by
      cases kq with
      | zero => have h_ := HL.out; simp [allLoop] at h_
      | succ f => exact ⟨f, rfl⟩
    have hcase : x = -1 ∧ ws = [] ∨ (x = -1 ∧ ws ≠ []) ∨ ∃ m : Nat, m < N ∧ x = (m : Int) := by
      rcases HX.out with e | e
      · by_cases c : ws = []
        · exact .inl ⟨e, c⟩
        · exact .inr (.inl ⟨e, c⟩)
      · exact .inr (.inr e)
    have HF0 := Aside0.mk hf0
    rcases hcase with ⟨rfl, rfl⟩ | ⟨rfl, hne⟩ | ⟨m, hm, rfl⟩
    · have h_ := HL.out
      rw [hf0, allLoop, if_pos rfl] at h_
      have e_ : pre = L := Option.some.inj h_
      have n0 : ((-1 : Int) != -1) = false := rfl
      clear h_ hf0
      gi_wp2
      refine bodyPost_end (results_none rfl _ _ _) rfl ?_
      exact ⟨⟨_, rfl⟩, e_ ▸ HJ.out⟩
    · have n0 : ((-1 : Int) != -1) = false := rfl
      have hlen : 0 < (ws.length : Int) := by
        have := List.length_pos_iff.2 hne
        omega
      have hlen2 := List.length_pos_iff.2 hne
      have hlen3 : decide (0 < ws.length) = true := by simp [hlen2]
      have HNE : Aside0 ((-1 : Int) ≠ -1 ∨ ws ≠ []) := ⟨.inr hne⟩
      clear hf0 hne
      gi_wp2
      try rw [hlen3]
      refine wpIn_wide.2 ?_
      go_loopg [4, 5, 6] kq (fun kq2 v4 v5 v6 wr => ∃ (f : Nat) (x : Int) (tn : Bool) (ws : List (Fin N × Bool)), v5 = .int .i64 x ∧ v6 = .bool tn ∧ Aside0 (f ≤ kq ∧ ws.length + f ≤ 4000000 ∧ f ≤ kq2) ∧ Aside0 (Ix N x) ∧ Aside0 (wr.ownsRow W.heap.size 79 2 v4 ws.length (lvls ws)) ∧ Aside0 (Vz w0 gs gn N cap s Br Bx root wr) ∧ Aside0 (J pre wr) ∧ Aside0 (allLoop s f (lw ws) x tn pre = some L) ∧ Aside0 (W.heap.size ≤ wr.heap.size) ∧ Aside0 (x ≠ -1 ∨ ws ≠ []))
      case atStart => exact ⟨kq, _, tn, ws, rfl, rfl, ⟨⟨Nat.le_refl _, HK.out.2, Nat.le_refl _⟩⟩, HX, HW, HV, HJ, HL, HZ, HNE⟩
      case round =>
        clear HX HW HV HJ HL HZ HNE
        obtain ⟨f, x, tn, ws, rfl, rfl, HK2, HX, HW, HV, HJ, HL, HZ, HNE⟩ := hrel
        obtain ⟨aw, cw, ew⟩ := own_slice HW.out
        subst ew
        obtain ⟨f2, hf2⟩ : ∃ f2, f = f2 + 1 := by
          cases f with
          | zero => have h_ := HL.out; simp [allLoop] at h_
          | succ f => exact ⟨f, rfl⟩
        subst hf2
        rcases HX.out with rfl | ⟨m, hm, rfl⟩
        · have n0 : ((-1 : Int) != -1) = false := rfl
          have hne : ws ≠ [] := HNE.out.resolve_left (fun e => e rfl)
          obtain ⟨ws', ⟨y, ty⟩, rfl⟩ : ∃ ws' p, ws = ws' ++ [p] := ⟨ws.dropLast, ws.getLast hne, (List.dropLast_concat_getLast hne).symm⟩
          obtain ⟨g, c, hv, hb, hlt, hc, hc0, hc1, ho⟩ := own_pop (a := .int .i64 (y.val : Int)) (b := .bool ty) (xs := lvls ws') (n := ws'.length) (by have h_ := HW.out; rw [lvls_snoc, List.length_append, List.length_singleton] at h_; exact h_) (lvls_length ws')
          injection hv with e1 e2 e3
          subst e1 e3
          obtain ⟨q, hq⟩ : ∃ q, (ws' ++ [(y, ty)]).length = q := ⟨_, rfl⟩
          have hq2 : q = ws'.length + 1 := hq.symm.trans (by simp)
          have hL3 := HL.out
          rw [lw_snoc, allLoop_pop] at hL3
          have HL3 := Aside0.mk hL3
          have hlen : pre.length < L.length := by
            have h_ := allLoop_len _ _ _ _ _ _ _ hL3
            rw [List.length_append, List.length_singleton] at h_
            omega
          have hqm : q ≤ 4000000 := by
            have h_ := HK2.out.2.1
            omega
          have hqc : q ≤ cw := by omega
          have hq1 : 1 ≤ q := by omega
          have eqn : ws'.length = (q - 1) := by omega
          have hw1 : wrap64 ((q : Int) - 1) = (q : Int) - 1 := by unfold wrap64; omega
          rw [hq]
          rw [eqn] at hc0 hc1
          have HO : Aside0 (wr.ownsRow W.heap.size 79 2 (.slice (some ⟨g, 0, none⟩) (q - 1) cw) ws'.length (lvls ws')) := ⟨by
            rw [eqn] at ho ⊢
            exact ho⟩
          obtain ⟨yv, hyv⟩ : ∃ yv : Nat, y.val = yv := ⟨_, rfl⟩
          have hyN : yv < N := hyv ▸ y.isLt
          rw [hyv] at hc0 hL3
          have hJ6 := HAB.out.below HJ.out (below_alloc (Below.refl wr.heap.size wr) (.cells #[.int .i64 (yv : Int), .bool ty] 79))
          have HV6 := Aside0.mk (HV.out.below (below_alloc (Below.refl wr.heap.size wr) (.cells #[.int .i64 (yv : Int), .bool ty] 79)))
          have HO6 : Aside0 ((wr.alloc (.cells #[.int .i64 (yv : Int), .bool ty] 79)).ownsRow W.heap.size 79 2 (.slice (some ⟨g, 0, none⟩) (q - 1) cw) ws'.length (lvls ws')) := ⟨own_kept HO.out (fun g' hg' => by
            cases hg'
            exact Below.heap_alloc _ _ _ hlt)⟩
          obtain ⟨fn, tmps, assign, body, hy, hR⟩ := HY.out pre (yv : Int) _ hJ6 hlen
          obtain ⟨bx1, hbx1⟩ : ∃ z, (belowN s (yv : Int) 1 ty).1 = z := ⟨_, rfl⟩
          obtain ⟨bt1, hbt1⟩ : ∃ z, (belowN s (yv : Int) 1 ty).2 = z := ⟨_, rfl⟩
          rw [hbx1, hbt1] at hL3
          have HL4 := Aside0.mk hL3
          have HBX1 := Aside0.mk hbx1
          have HBT1 := Aside0.mk hbt1
          have HIX : Aside0 (Ix N bx1) := ⟨hbx1 ▸ HGD.out.below hyN (.inr rfl) ty⟩
          have hnl := World.alloc_heap_new wr (.cells #[.int .i64 (yv : Int), .bool ty] 79)
          have HNL := Aside0.mk hnl
          have HQ := Aside0.mk (And.intro hq2 (And.intro eqn hb))
          clear hJ6 hlen hL3 hq hq2 hqm eqn ho hb hne hbx1 hbt1 hnl hc HV HO HNE HL HW
          go_wp2
          gi_wp2
          refine hR.mono ?_
          rintro e W7 ⟨rfl, hJ7, hK7⟩
          have hl7 := (hK7.lv _ _ HNL.out).trans HNL.out
          have hl70 : W7.cell? ⟨wr.heap.size, 0, none⟩ = some (.int .i64 (yv : Int)) := (blk_cell hl7 0).trans rfl
          have hl71 : W7.cell? ⟨wr.heap.size, 1, none⟩ = some (.bool ty) := (blk_cell hl7 1).trans rfl
          have HV7 := Aside0.mk (HV6.out.ky hK7 HN4.out.1 HN4.out.2.1 HN4.out.2.2.1)
          have HO7 : Aside0 (W7.ownsRow W.heap.size 79 2 (.slice (some ⟨g, 0, none⟩) (q - 1) cw) ws'.length (lvls ws')) := ⟨own_kept HO6.out (fun g' hg' => by
            obtain ⟨_, cs, hcs⟩ := own_typed HO6.out g' hg'
            exact hK7.lv g' cs hcs)⟩
          have HJ7 := Aside0.mk hJ7
          have HZ7 : Aside0 (W.heap.size ≤ W7.heap.size) := ⟨by
            have h1_ := hK7.below.size
            have h2_ := HZ.out
            rw [World.size_alloc] at h1_
            omega⟩
          have hbx7 := HV7.out.bx.cell
          clear hJ7 hK7 hc0 hc1 hR hy hl7
          gi_wp2_with (refine ⟨trivial, ?_⟩; gi_at_call 57; refine (callsIn_wide.2 (below_calls HV7.out.sp hN hyN (.inr rfl) ty)).mono ?_; rw [HBX1.out, HBT1.out]; rintro e w8 ⟨rfl, hb⟩; have HJ8 := Aside0.mk (HAB.out.below HJ7.out hb); have HV8 := Aside0.mk (HV7.out.below hb); have HW8 : Aside0 (w8.ownsRow W.heap.size 79 2 (.slice (some ⟨g, 0, none⟩) (q - 1) cw) ws'.length (lvls ws')) := ⟨own_kept HO7.out (fun g' hg' => hb.block g' (Array.getElem?_eq_some_iff.1 (own_typed HO7.out g' hg').2.choose_spec).1)⟩; have HZ8 : Aside0 (W.heap.size ≤ w8.heap.size) := ⟨Nat.le_trans HZ7.out hb.size⟩; clear hb)
          have hk1 := HK.out
          have hk2 := HK2.out
          have hq_ := HQ.out.1
          refine ⟨gK - 1, by omega, _, _, _, _, _, _, _, _, _, _, _, _, _, _, _, _, _, _, _, _, _, _, _, _, _, _, _, _, _, _, _, _, _, _, _, _, _, _, _, _, _, _, _, _, _, _, _, _, _, _, _, rfl, f2, bx1, bt1, ws', pre ++ [(yv : Int)], rfl, rfl, ⟨⟨by omega, by rw [List.length_append, List.length_singleton] at hk2; omega⟩⟩, HIX, HW8, HV8, HJ8, HL4, HZ8⟩
        · have n1 : ((m : Int) != -1) = true := bne_iff_ne.mpr (by omega)
          have m2 : (m : Int) ≠ -1 := by omega
          have hL3 := HL.out
          rw [allLoop_push _ _ _ _ _ m2] at hL3
          obtain ⟨bx1, hbx1⟩ : ∃ z, (belowN s (m : Int) 0 tn).1 = z := ⟨_, rfl⟩
          obtain ⟨bt1, hbt1⟩ : ∃ z, (belowN s (m : Int) 0 tn).2 = z := ⟨_, rfl⟩
          rw [hbx1, hbt1] at hL3
          have HL3 := Aside0.mk hL3
          have HBX1 := Aside0.mk hbx1
          have HBT1 := Aside0.mk hbt1
          have HIX : Aside0 (Ix N bx1) := ⟨hbx1 ▸ HGD.out.below hm (.inl rfl) tn⟩
          have HMN := Aside0.mk hm
          clear hL3 hbx1 hbt1 HL HNE m2
          go_wp2_with (first
            | ((with_reducible refine gate_builtin (b := .append) (xs := #[.tmp 18, .tmp 22]) rfl ?_); at_builtin; refine print_append_cells (w0 := wr) W.heap.size rfl (.tmp 18) (.tmp 22) 77 79 (.agg #[.int .i64 0, .bool false]) 2 16 rfl Try.underlying77 info_level rfl (by decide) (by decide) (.slice aw ws.length cw) ws.length (lvls ws) [.int .i64 (m : Int), .bool tn] rfl rfl rfl ?aH ?aO (Below.refl _ _) ?aS ?aL ?_; (case aH => intro u hu; simp at hu; rcases hu with rfl | rfl <;> rfl); (case aO => exact HW.out); (case aS => exact HZ.out); (case aL => have h_ := HK2.out.2.1; omega); intro v1 w5 ho hb5 hg hat; have HJ5 : Aside0 (J pre w5) := ⟨HAB.out _ _ _ _ HJ.out hg (fun r e => own_typed HW.out r e)⟩; have HV5 := Aside0.mk (HV.out.grown hg HM.out (fun r e => (own_typed HW.out r e).1)); have HW5 := Aside0.mk ho; have HZ5 : Aside0 (W.heap.size ≤ w5.heap.size) := ⟨Nat.le_trans HZ.out hg.size⟩; have hbx5 := HV5.out.bx.cell; clear ho hb5 hg hat)
            | (go_at_call 57; (with_reducible refine (below_calls HV5.out.sp hN HMN.out (.inl rfl) tn).mono ?_); rw [HBX1.out, HBT1.out]; rintro e w6 ⟨rfl, hb⟩; have HJ6 := Aside0.mk (HAB.out.below HJ5.out hb); have HV6 := Aside0.mk (HV5.out.below hb); have HW6 : Aside0 (w6.ownsRow W.heap.size 79 2 v1 (ws.length + 1) (lvls ws ++ [.int .i64 (m : Int), .bool tn])) := ⟨own_kept HW5.out (fun g' hg' => hb.block g' (Array.getElem?_eq_some_iff.1 (own_typed HW5.out g' hg').2.choose_spec).1)⟩; have HZ6 : Aside0 (W.heap.size ≤ w6.heap.size) := ⟨Nat.le_trans HZ5.out hb.size⟩; clear hb))
          have hk2 := HK2.out
          go_roundg f2
          case measure => omega
          case rel => exact ⟨f2, bx1, bt1, ws ++ [(⟨m, HMN.out⟩, tn)], rfl, rfl, ⟨⟨by omega, by rw [List.length_append, List.length_singleton]; omega, Nat.le_refl _⟩⟩, HIX, ⟨by rw [lvls_snoc, List.length_append]; exact HW6.out⟩, HV6, HJ6, ⟨by rw [lw_snoc]; exact HL3.out⟩, HZ6, ⟨.inr (by simp)⟩⟩
    · have n1 : ((m : Int) != -1) = true := bne_iff_ne.mpr (by omega)
      have HNE : Aside0 ((m : Int) ≠ -1 ∨ ws ≠ []) := ⟨.inl (by omega)⟩
      clear hf0 hm
      gi_wp2
      refine wpIn_wide.2 ?_
      go_loopg [4, 5, 6] kq (fun kq2 v4 v5 v6 wr => ∃ (f : Nat) (x : Int) (tn : Bool) (ws : List (Fin N × Bool)), v5 = .int .i64 x ∧ v6 = .bool tn ∧ Aside0 (f ≤ kq ∧ ws.length + f ≤ 4000000 ∧ f ≤ kq2) ∧ Aside0 (Ix N x) ∧ Aside0 (wr.ownsRow W.heap.size 79 2 v4 ws.length (lvls ws)) ∧ Aside0 (Vz w0 gs gn N cap s Br Bx root wr) ∧ Aside0 (J pre wr) ∧ Aside0 (allLoop s f (lw ws) x tn pre = some L) ∧ Aside0 (W.heap.size ≤ wr.heap.size) ∧ Aside0 (x ≠ -1 ∨ ws ≠ []))
      case atStart => exact ⟨kq, _, tn, ws, rfl, rfl, ⟨⟨Nat.le_refl _, HK.out.2, Nat.le_refl _⟩⟩, HX, HW, HV, HJ, HL, HZ, HNE⟩
      case round =>
        clear HX HW HV HJ HL HZ HNE
        obtain ⟨f, x, tn, ws, rfl, rfl, HK2, HX, HW, HV, HJ, HL, HZ, HNE⟩ := hrel
        obtain ⟨aw, cw, ew⟩ := own_slice HW.out
        subst ew
        obtain ⟨f2, hf2⟩ : ∃ f2, f = f2 + 1 := by
          cases f with
          | zero => have h_ := HL.out; simp [allLoop] at h_
          | succ f => exact ⟨f, rfl⟩
        subst hf2
        rcases HX.out with rfl | ⟨m, hm, rfl⟩
        · have n0 : ((-1 : Int) != -1) = false := rfl
          have hne : ws ≠ [] := HNE.out.resolve_left (fun e => e rfl)
          obtain ⟨ws', ⟨y, ty⟩, rfl⟩ : ∃ ws' p, ws = ws' ++ [p] := ⟨ws.dropLast, ws.getLast hne, (List.dropLast_concat_getLast hne).symm⟩
          obtain ⟨g, c, hv, hb, hlt, hc, hc0, hc1, ho⟩ := own_pop (a := .int .i64 (y.val : Int)) (b := .bool ty) (xs := lvls ws') (n := ws'.length) (by have h_ := HW.out; rw [lvls_snoc, List.length_append, List.length_singleton] at h_; exact h_) (lvls_length ws')
          injection hv with e1 e2 e3
          subst e1 e3
          obtain ⟨q, hq⟩ : ∃ q, (ws' ++ [(y, ty)]).length = q := ⟨_, rfl⟩
          have hq2 : q = ws'.length + 1 := hq.symm.trans (by simp)
          have hL3 := HL.out
          rw [lw_snoc, allLoop_pop] at hL3
          have HL3 := Aside0.mk hL3
          have hlen : pre.length < L.length := by
            have h_ := allLoop_len _ _ _ _ _ _ _ hL3
            rw [List.length_append, List.length_singleton] at h_
            omega
          have hqm : q ≤ 4000000 := by
            have h_ := HK2.out.2.1
            omega
          have hqc : q ≤ cw := by omega
          have hq1 : 1 ≤ q := by omega
          have eqn : ws'.length = (q - 1) := by omega
          have hw1 : wrap64 ((q : Int) - 1) = (q : Int) - 1 := by unfold wrap64; omega
          rw [hq]
          rw [eqn] at hc0 hc1
          have HO : Aside0 (wr.ownsRow W.heap.size 79 2 (.slice (some ⟨g, 0, none⟩) (q - 1) cw) ws'.length (lvls ws')) := ⟨by
            rw [eqn] at ho ⊢
            exact ho⟩
          obtain ⟨yv, hyv⟩ : ∃ yv : Nat, y.val = yv := ⟨_, rfl⟩
          have hyN : yv < N := hyv ▸ y.isLt
          rw [hyv] at hc0 hL3
          have hJ6 := HAB.out.below HJ.out (below_alloc (Below.refl wr.heap.size wr) (.cells #[.int .i64 (yv : Int), .bool ty] 79))
          have HV6 := Aside0.mk (HV.out.below (below_alloc (Below.refl wr.heap.size wr) (.cells #[.int .i64 (yv : Int), .bool ty] 79)))
          have HO6 : Aside0 ((wr.alloc (.cells #[.int .i64 (yv : Int), .bool ty] 79)).ownsRow W.heap.size 79 2 (.slice (some ⟨g, 0, none⟩) (q - 1) cw) ws'.length (lvls ws')) := ⟨own_kept HO.out (fun g' hg' => by
            cases hg'
            exact Below.heap_alloc _ _ _ hlt)⟩
          obtain ⟨fn, tmps, assign, body, hy, hR⟩ := HY.out pre (yv : Int) _ hJ6 hlen
          obtain ⟨bx1, hbx1⟩ : ∃ z, (belowN s (yv : Int) 1 ty).1 = z := ⟨_, rfl⟩
          obtain ⟨bt1, hbt1⟩ : ∃ z, (belowN s (yv : Int) 1 ty).2 = z := ⟨_, rfl⟩
          rw [hbx1, hbt1] at hL3
          have HL4 := Aside0.mk hL3
          have HBX1 := Aside0.mk hbx1
          have HBT1 := Aside0.mk hbt1
          have HIX : Aside0 (Ix N bx1) := ⟨hbx1 ▸ HGD.out.below hyN (.inr rfl) ty⟩
          have hnl := World.alloc_heap_new wr (.cells #[.int .i64 (yv : Int), .bool ty] 79)
          have HNL := Aside0.mk hnl
          have HQ := Aside0.mk (And.intro hq2 (And.intro eqn hb))
          clear hJ6 hlen hL3 hq hq2 hqm eqn ho hb hne hbx1 hbt1 hnl hc HV HO HNE HL HW
          go_wp2
          gi_wp2
          refine hR.mono ?_
          rintro e W7 ⟨rfl, hJ7, hK7⟩
          have hl7 := (hK7.lv _ _ HNL.out).trans HNL.out
          have hl70 : W7.cell? ⟨wr.heap.size, 0, none⟩ = some (.int .i64 (yv : Int)) := (blk_cell hl7 0).trans rfl
          have hl71 : W7.cell? ⟨wr.heap.size, 1, none⟩ = some (.bool ty) := (blk_cell hl7 1).trans rfl
          have HV7 := Aside0.mk (HV6.out.ky hK7 HN4.out.1 HN4.out.2.1 HN4.out.2.2.1)
          have HO7 : Aside0 (W7.ownsRow W.heap.size 79 2 (.slice (some ⟨g, 0, none⟩) (q - 1) cw) ws'.length (lvls ws')) := ⟨own_kept HO6.out (fun g' hg' => by
            obtain ⟨_, cs, hcs⟩ := own_typed HO6.out g' hg'
            exact hK7.lv g' cs hcs)⟩
          have HJ7 := Aside0.mk hJ7
          have HZ7 : Aside0 (W.heap.size ≤ W7.heap.size) := ⟨by
            have h1_ := hK7.below.size
            have h2_ := HZ.out
            rw [World.size_alloc] at h1_
            omega⟩
          have hbx7 := HV7.out.bx.cell
          clear hJ7 hK7 hc0 hc1 hR hy hl7
          gi_wp2_with (refine ⟨trivial, ?_⟩; gi_at_call 57; refine (callsIn_wide.2 (below_calls HV7.out.sp hN hyN (.inr rfl) ty)).mono ?_; rw [HBX1.out, HBT1.out]; rintro e w8 ⟨rfl, hb⟩; have HJ8 := Aside0.mk (HAB.out.below HJ7.out hb); have HV8 := Aside0.mk (HV7.out.below hb); have HW8 : Aside0 (w8.ownsRow W.heap.size 79 2 (.slice (some ⟨g, 0, none⟩) (q - 1) cw) ws'.length (lvls ws')) := ⟨own_kept HO7.out (fun g' hg' => hb.block g' (Array.getElem?_eq_some_iff.1 (own_typed HO7.out g' hg').2.choose_spec).1)⟩; have HZ8 : Aside0 (W.heap.size ≤ w8.heap.size) := ⟨Nat.le_trans HZ7.out hb.size⟩; clear hb)
          have hk1 := HK.out
          have hk2 := HK2.out
          have hq_ := HQ.out.1
          refine ⟨gK - 1, by omega, _, _, _, _, _, _, _, _, _, _, _, _, _, _, _, _, _, _, _, _, _, _, _, _, _, _, _, _, _, _, _, _, _, _, _, _, _, _, _, _, _, _, _, _, _, _, _, _, _, _, _, rfl, f2, bx1, bt1, ws', pre ++ [(yv : Int)], rfl, rfl, ⟨⟨by omega, by rw [List.length_append, List.length_singleton] at hk2; omega⟩⟩, HIX, HW8, HV8, HJ8, HL4, HZ8⟩
        · have n1 : ((m : Int) != -1) = true := bne_iff_ne.mpr (by omega)
          have m2 : (m : Int) ≠ -1 := by omega
          have hL3 := HL.out
          rw [allLoop_push _ _ _ _ _ m2] at hL3
          obtain ⟨bx1, hbx1⟩ : ∃ z, (belowN s (m : Int) 0 tn).1 = z := ⟨_, rfl⟩
          obtain ⟨bt1, hbt1⟩ : ∃ z, (belowN s (m : Int) 0 tn).2 = z := ⟨_, rfl⟩
          rw [hbx1, hbt1] at hL3
          have HL3 := Aside0.mk hL3
          have HBX1 := Aside0.mk hbx1
          have HBT1 := Aside0.mk hbt1
          have HIX : Aside0 (Ix N bx1) := ⟨hbx1 ▸ HGD.out.below hm (.inl rfl) tn⟩
          have HMN := Aside0.mk hm
          clear hL3 hbx1 hbt1 HL HNE m2
          go_wp2_with (first
            | ((with_reducible refine gate_builtin (b := .append) (xs := #[.tmp 18, .tmp 22]) rfl ?_); at_builtin; refine print_append_cells (w0 := wr) W.heap.size rfl (.tmp 18) (.tmp 22) 77 79 (.agg #[.int .i64 0, .bool false]) 2 16 rfl Try.underlying77 info_level rfl (by decide) (by decide) (.slice aw ws.length cw) ws.length (lvls ws) [.int .i64 (m : Int), .bool tn] rfl rfl rfl ?aH ?aO (Below.refl _ _) ?aS ?aL ?_; (case aH => intro u hu; simp at hu; rcases hu with rfl | rfl <;> rfl); (case aO => exact HW.out); (case aS => exact HZ.out); (case aL => have h_ := HK2.out.2.1; omega); intro v1 w5 ho hb5 hg hat; have HJ5 : Aside0 (J pre w5) := ⟨HAB.out _ _ _ _ HJ.out hg (fun r e => own_typed HW.out r e)⟩; have HV5 := Aside0.mk (HV.out.grown hg HM.out (fun r e => (own_typed HW.out r e).1)); have HW5 := Aside0.mk ho; have HZ5 : Aside0 (W.heap.size ≤ w5.heap.size) := ⟨Nat.le_trans HZ.out hg.size⟩; have hbx5 := HV5.out.bx.cell; clear ho hb5 hg hat)
            | (go_at_call 57; (with_reducible refine (below_calls HV5.out.sp hN HMN.out (.inl rfl) tn).mono ?_); rw [HBX1.out, HBT1.out]; rintro e w6 ⟨rfl, hb⟩; have HJ6 := Aside0.mk (HAB.out.below HJ5.out hb); have HV6 := Aside0.mk (HV5.out.below hb); have HW6 : Aside0 (w6.ownsRow W.heap.size 79 2 v1 (ws.length + 1) (lvls ws ++ [.int .i64 (m : Int), .bool tn])) := ⟨own_kept HW5.out (fun g' hg' => hb.block g' (Array.getElem?_eq_some_iff.1 (own_typed HW5.out g' hg').2.choose_spec).1)⟩; have HZ6 : Aside0 (W.heap.size ≤ w6.heap.size) := ⟨Nat.le_trans HZ5.out hb.size⟩; clear hb))
          have hk2 := HK2.out
          go_roundg f2
          case measure => omega
          case rel => exact ⟨f2, bx1, bt1, ws ++ [(⟨m, HMN.out⟩, tn)], rfl, rfl, ⟨⟨by omega, by rw [List.length_append, List.length_singleton]; omega, Nat.le_refl _⟩⟩, HIX, ⟨by rw [lvls_snoc, List.length_append]; exact HW6.out⟩, HV6, HJ6, ⟨by rw [lw_snoc]; exact HL3.out⟩, HZ6, ⟨.inr (by simp)⟩⟩
end Go.Proofs.YtcnmbgijehnchaaW.Splay
