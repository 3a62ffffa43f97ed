/- Trees: both sides are one; how deep they are. No condition. -/
import Derived.Test.YtpfaejbdbdjhhaaTrR3
import Derived.Test.YtpfaejbdbdjhhaaTrP4
import Derived.Test.YtpfaejbdbdjhhaaEngTrG
set_option linter.unusedVariables false
set_option linter.unusedSimpArgs false
namespace Go.Proofs.Ytpfaejbdbdjhhaa
open Go.RowKit

/-! ### The pairs alone matter -/
theorem ar_congr {Q Q' : List (List Ct)} (h : prI Q = prI Q') : arL Q = arL Q' := by funext l; simp only [arL, h]
theorem cost_congr {Q Q' : List (List Ct)} (h : prI Q = prI Q') : costL Q = costL Q' := by funext l; simp only [costL, ar_congr h]
theorem mid_congr {Q Q' : List (List Ct)} (h : prI Q = prI Q') : midR Q = midR Q' := by funext l; simp only [midR, h]
theorem low_congr {Q Q' : List (List Ct)} (h : prI Q = prI Q') : lowT Q = lowT Q' := by funext l; simp only [lowT, mid_congr h]
theorem high_congr {Q Q' : List (List Ct)} (h : prI Q = prI Q') : highT Q = highT Q' := by funext l; simp only [highT, mid_congr h]
theorem size_congr {Q Q' : List (List Ct)} (h : prI Q = prI Q') : sizeT Q = sizeT Q' := by funext l; simp only [sizeT, low_congr h, high_congr h]
theorem axT_congr {Q Q' : List (List Ct)} (h : prI Q = prI Q') : axT Q = axT Q' := by funext l; simp only [axT, size_congr h]
theorem bin_congr {Q Q' : List (List Ct)} (h : prI Q = prI Q') : binL Q = binL Q' := by funext l i; simp only [binL, h, axT_congr h, low_congr h, size_congr h]
theorem left_congr {Q Q' : List (List Ct)} (h : prI Q = prI Q') : leftL Q = leftL Q' := by funext l c; simp only [leftL, bin_congr h]
theorem right_congr {Q Q' : List (List Ct)} (h : prI Q = prI Q') : rightL Q = rightL Q' := by funext l c; simp only [rightL, bin_congr h]
theorem step_congr {Q Q' : List (List Ct)} (h : prI Q = prI Q') : stepB Q = stepB Q' := by funext l k st; simp only [stepB, left_congr h, right_congr h, cost_congr h]
theorem best_congr {Q Q' : List (List Ct)} (h : prI Q = prI Q') : bestL Q = bestL Q' := by funext l; simp only [bestL, step_congr h]
theorem split_congr {Q Q' : List (List Ct)} (h : prI Q = prI Q') : splitL Q = splitL Q' := by funext l; simp only [splitL, size_congr h, axT_congr h, best_congr h]
theorem nodes_congr {Q Q' : List (List Ct)} (h : prI Q = prI Q') : ∀ k base first l, nodesL Q k base first l = nodesL Q' k base first l := by
  intro k
  induction k with
  | zero => intros; rfl
  | succ k ih => intro base first l; simp only [nodesL, ar_congr h, split_congr h, ih]
/-- The law's pairs are its numbers'. -/
theorem lpa_is {x0 : List (List Ct)} (h1 : x0.length ≤ 1000) : lpa_res x0 = some (tab (fun k => [.i (rd x0 k 0).int, .i (rd x0 k 1).int, .i (rd x0 k 2).int, .i (rd x0 k 3).int, .i (rd x0 k 4).int, .i (rd x0 k 5).int, .i (rd x0 k 6).int, .i (rd x0 k 7).int, .i (rd x0 k 8).int, .i (rd x0 k 9).int, .i (rd x0 k 10).int, .i (rd x0 k 11).int]) x0.length) := by
  have it := iter_range (step := lpa_L0_step x0) (A := List (List Ct)) (fun k a => ((k : Int), a)) (fun k a => a.length = k) (f := fun k a => a ++ [[.i (rd x0 k 0).int, .i (rd x0 k 1).int, .i (rd x0 k 2).int, .i (rd x0 k 3).int, .i (rd x0 k 4).int, .i (rd x0 k 5).int, .i (rd x0 k 6).int, .i (rd x0 k 7).int, .i (rd x0 k 8).int, .i (rd x0 k 9).int, .i (rd x0 k 10).int, .i (rd x0 k 11).int]]) (out := fun a => ((x0.length : Int), a)) (n := x0.length) (m := x0.length + 1) (v := ((0 : Int), [])) (a0 := [])
    rfl (by omega)
    (fun k hk a ha => ⟨by
      have q1 : (k : Int) < (x0.length : Int) := by omega
      have q2 : (0 : Int) ≤ (k : Int) ∧ (k : Int) < (x0.length : Int) := ⟨by omega, q1⟩
      have q3 : a.length + (0 + 1) ≤ 9223372036854775807 ∧ (a.length + (0 + 1)) * 96 ≤ 140737488355328 := by omega
      simp only [lpa_L0_step, Int.toNat_natCast, List.length_cons, List.length_nil, cond_dec q1, cond_dec q2, cond_dec q3, wrap_in (n := (k : Int) + 1) (by omega) (by omega)]
      rfl, by simp [ha]⟩)
    (fun a _ => by
      simp only [lpa_L0_step]
      rw [cond_not (by omega)]) rfl
  rw [nfold_tab (g := fun k => [.i (rd x0 k 0).int, .i (rd x0 k 1).int, .i (rd x0 k 2).int, .i (rd x0 k 3).int, .i (rd x0 k 4).int, .i (rd x0 k 5).int, .i (rd x0 k 6).int, .i (rd x0 k 7).int, .i (rd x0 k 8).int, .i (rd x0 k 9).int, .i (rd x0 k 10).int, .i (rd x0 k 11).int]) (fun k a => rfl)] at it
  have hp : lpa_L0_p x0 = true := by unfold lpa_L0_p; rw [it]; rfl
  have hv : lpa_L0_v x0 = ((x0.length : Int), tab (fun k => [.i (rd x0 k 0).int, .i (rd x0 k 1).int, .i (rd x0 k 2).int, .i (rd x0 k 3).int, .i (rd x0 k 4).int, .i (rd x0 k 5).int, .i (rd x0 k 6).int, .i (rd x0 k 7).int, .i (rd x0 k 8).int, .i (rd x0 k 9).int, .i (rd x0 k 10).int, .i (rd x0 k 11).int]) x0.length) := by unfold lpa_L0_v loopRes; rw [it]; rfl
  simp only [lpa_res, hp, hv, cond_true]
theorem lpa_pr {x0 : List (List Ct)} : prI (tab (fun k => [.i (rd x0 k 0).int, .i (rd x0 k 1).int, .i (rd x0 k 2).int, .i (rd x0 k 3).int, .i (rd x0 k 4).int, .i (rd x0 k 5).int, .i (rd x0 k 6).int, .i (rd x0 k 7).int, .i (rd x0 k 8).int, .i (rd x0 k 9).int, .i (rd x0 k 10).int, .i (rd x0 k 11).int]) x0.length) = prI x0 := by
  funext i
  have key : ∀ j, j < 12 → (rd (tab (fun k => [.i (rd x0 k 0).int, .i (rd x0 k 1).int, .i (rd x0 k 2).int, .i (rd x0 k 3).int, .i (rd x0 k 4).int, .i (rd x0 k 5).int, .i (rd x0 k 6).int, .i (rd x0 k 7).int, .i (rd x0 k 8).int, .i (rd x0 k 9).int, .i (rd x0 k 10).int, .i (rd x0 k 11).int]) x0.length) i.toNat j).int = (rd x0 i.toNat j).int := by
    intro j hj
    by_cases hi : i.toNat < x0.length
    · rw [rd_tab hi]
      rcases j with _ | _ | _ | _ | _ | _ | _ | _ | _ | _ | _ | _ | j
      all_goals first | rfl | omega
    · have e1 : ∀ (m : List (List Ct)), ¬ i.toNat < m.length → (rd m i.toNat j) = .i 0 := fun m hm => by
        unfold rd
        rw [List.getD_eq_getElem?_getD (l := m), List.getElem?_eq_none (by omega)]
        rfl
      rw [e1 _ (by rw [tab_length]; exact hi), e1 _ hi]
  simp only [prI, key 0 (by omega), key 1 (by omega), key 2 (by omega), key 3 (by omega), key 4 (by omega), key 5 (by omega), key 6 (by omega), key 7 (by omega), key 8 (by omega), key 9 (by omega), key 10 (by omega), key 11 (by omega)]
theorem rma_is {x0 : List (List Ct)} (h0 : 0 < x0.length) (h1 : x0.length ≤ 128) :
    ∃ o', rma_res x0 = some ((nodesL x0 141 0 0 (idsL x0.length)).1, o') ∧ col o' = (nodesL x0 141 0 0 (idsL x0.length)).2 := by
  have it := iter_range (step := rma_L0_step x0) (A := List (List Ct)) (fun k a => ((k : Int), a)) (fun k a => a.length = k) (f := fun k a => a ++ [[Ct.i (k : Int)]]) (out := fun a => ((x0.length : Int), a)) (n := x0.length) (m := x0.length + 1) (v := ((0 : Int), [])) (a0 := [])
    rfl (by omega)
    (fun k hk a ha => ⟨by
      have q1 : (k : Int) < (x0.length : Int) := by omega
      have q3 : a.length + (0 + 1) ≤ 9223372036854775807 ∧ (a.length + (0 + 1)) * 8 ≤ 140737488355328 := by omega
      simp only [rma_L0_step, List.length_cons, List.length_nil, cond_dec q1, cond_dec q3, wrap_in (n := (k : Int) + 1) (by omega) (by omega)]
      rfl, by simp [ha]⟩)
    (fun a _ => by
      simp only [rma_L0_step]
      rw [cond_not (by omega)]) rfl
  rw [nfold_tab (g := fun k => [Ct.i (k : Int)]) (fun k a => rfl)] at it
  have p0 : rma_L0_p x0 = true := by unfold rma_L0_p; rw [it]; rfl
  have v0 : rma_L0_v x0 = ((x0.length : Int), tab (fun k => [Ct.i (k : Int)]) x0.length) := by unfold rma_L0_v loopRes; rw [it]; rfl
  obtain ⟨o', t1, t2⟩ := rnn_is (Q := x0) (mnode_ok 140 (Nat.le_refl _)) (rnode_ok 140) (col_ids x0.length) (by rw [idsL_length]; exact h0) (by rw [idsL_length]; omega) (fun i hi => idsL_mem hi)
  have vn : rma_c27462395 x0 = ((nodesL x0 141 0 0 (idsL x0.length)).1, o') := by
    unfold rma_c27462395 rnn_v
    rw [v0, t1]; rfl
  refine ⟨o', ?_, t2⟩
  have b1 : ((x0.length : Int) == (0 : Int)) = false := by rw [beq_eq_false_iff_ne]; omega
  have b2 : ¬ (x0.length : Int) > 128 := by omega
  simp only [rma_res, b1, cond_not b2, p0, v0, t1, vn, Option.isSome_some, cond_true, cond_false]
theorem rma_far {x0 : List (List Ct)} (h0 : 128 < x0.length) : rma_res x0 = some ([], []) := by
  have b1 : ((x0.length : Int) == (0 : Int)) = false := by rw [beq_eq_false_iff_ne]; omega
  have b2 : (x0.length : Int) > 128 := by omega
  simp only [rma_res, b1, cond_dec b2, cond_false, cond_true]
/-! ### Nodes lead on -/
/-- A node is a leaf, or leads on to two that stand behind it. -/
def Leads (N : List (List Ct)) (base : Nat) (i : Nat) : Prop := 0 < (rd N i 15).int ∨ ((rd N i 15).int = 0 ∧ ((base + i : Nat) : Int) < (rd N i 12).int ∧ (rd N i 12).int < ((base + N.length : Nat) : Int) ∧ ((base + i : Nat) : Int) < (rd N i 13).int ∧ (rd N i 13).int < ((base + N.length : Nat) : Int))
theorem nodes_lead (Q : List (List Ct)) : ∀ (k base first : Nat) (l : List Int), 0 < l.length → l.length ≤ k → ∀ i, i < (nodesL Q k base first l).1.length → Leads (nodesL Q k base first l).1 base i := by
  intro k
  induction k with
  | zero => intro base first l h0 h1; omega
  | succ k ih =>
    intro base first l h0 h1 i
    unfold nodesL
    by_cases h4 : l.length ≤ 4
    · rw [if_pos h4]
      intro hi
      have : i = 0 := by simpa using hi
      subst this
      exact .inl (by show 0 < (l.length : Int); omega)
    · rw [if_neg h4]
      dsimp only
      obtain ⟨p1, p2⟩ := split_pos Q (l := l) (by omega)
      have hs := split_len Q l
      have A1 := ih (base + 1) first (splitL Q l).1 p1 (by omega)
      obtain ⟨_, _, a3⟩ := nodes_perm Q k (base + 1) first (splitL Q l).1 p1 (by omega)
      generalize nodesL Q k (base + 1) first (splitL Q l).1 = N1 at *
      have A2 := ih (base + 1 + N1.1.length) (first + (splitL Q l).1.length) (splitL Q l).2 p2 (by omega)
      obtain ⟨_, _, b3⟩ := nodes_perm Q k (base + 1 + N1.1.length) (first + (splitL Q l).1.length) (splitL Q l).2 p2 (by omega)
      generalize nodesL Q k (base + 1 + N1.1.length) (first + (splitL Q l).1.length) (splitL Q l).2 = N2 at *
      intro hi
      simp only [List.length_cons, List.length_append] at hi
      rcases i with _ | i
      · refine .inr ⟨rfl, ?_, ?_, ?_, ?_⟩
        · show ((base + 0 : Nat) : Int) < ((base + 1 : Nat) : Int); omega
        · show ((base + 1 : Nat) : Int) < _
          simp only [List.length_cons, List.length_append]; omega
        · show ((base + 0 : Nat) : Int) < ((base + 1 + N1.1.length : Nat) : Int); omega
        · show ((base + 1 + N1.1.length : Nat) : Int) < _
          simp only [List.length_cons, List.length_append]; omega
      · have e : ∀ j, rd (row16 (arL Q l) ((base + 1 : Nat) : Int) ((base + 1 + N1.1.length : Nat) : Int) 0 0 :: (N1.1 ++ N2.1)) (i + 1) j = if i < N1.1.length then rd N1.1 i j else rd N2.1 (i - N1.1.length) j := fun j => by rw [rd_cons_succ, rd_append]
        unfold Leads
        simp only [e, List.length_cons, List.length_append]
        by_cases hi1 : i < N1.1.length
        · simp only [if_pos hi1]
          rcases A1 i hi1 with h | ⟨h, h2, h3, h4, h5⟩
          · exact .inl h
          · exact .inr ⟨h, by omega, by omega, by omega, by omega⟩
        · simp only [if_neg hi1]
          rcases A2 (i - N1.1.length) (by omega) with h | ⟨h, h2, h3, h4, h5⟩
          · exact .inl h
          · exact .inr ⟨h, by omega, by omega, by omega, by omega⟩
/-- Both sides find a tree as deep. -/
theorem deep_is {N o o' : List (List Ct)} (hN : ∀ i, i < N.length → Leads N 0 i) (hl : N.length ≤ 100000) : ∀ k i, i < N.length → N.length - i ≤ k →
    (tdpAt k).i.p N o (i : Int) = true ∧ (rdpAt k).i.p N o' (i : Int) = true ∧ (tdpAt k).i.v N o (i : Int) = (rdpAt k).i.v N o' (i : Int) ∧ 0 ≤ (tdpAt k).i.v N o (i : Int) ∧ (tdpAt k).i.v N o (i : Int) ≤ ((N.length - i : Nat) : Int) := by
  intro k
  induction k with
  | zero => intro i hi hk; omega
  | succ k ih =>
    intro i hi hk
    have b1 : ¬ (i : Int) < 0 := by omega
    have b2 : ¬ (i : Int) ≥ (N.length : Int) := by omega
    have b3 : (0 : Int) ≤ (i : Int) ∧ (i : Int) < (N.length : Int) := by omega
    have b4 : ((N.length : Int) == (0 : Int)) = false := by rw [beq_eq_false_iff_ne]; omega
    have goalT : ∀ v, @tdp_res (tdpAt k).i N o (i : Int) = some v → (tdpAt (k + 1)).i.p N o (i : Int) = true ∧ (tdpAt (k + 1)).i.v N o (i : Int) = v := fun v hv => by
      constructor
      · show (@tdp_res (tdpAt k).i N o (i : Int)).isSome = true
        rw [hv]; rfl
      · show (@tdp_res (tdpAt k).i N o (i : Int)).getD 0 = v
        rw [hv]; rfl
    have goalR : ∀ v, @rdp_res (rdpAt k).i N o' (i : Int) = some v → (rdpAt (k + 1)).i.p N o' (i : Int) = true ∧ (rdpAt (k + 1)).i.v N o' (i : Int) = v := fun v hv => by
      constructor
      · show (@rdp_res (rdpAt k).i N o' (i : Int)).isSome = true
        rw [hv]; rfl
      · show (@rdp_res (rdpAt k).i N o' (i : Int)).getD 0 = v
        rw [hv]; rfl
    rcases hN i hi with hc | ⟨hc, h2, h3, h4, h5⟩
    · have hc' : (rd N i 15).int > 0 := hc
      obtain ⟨t1, t2⟩ := goalT 1 (by simp only [tdp_res, cond_not b1, cond_not b2, cond_dec b3, Int.toNat_natCast, cond_dec hc', cond_true])
      obtain ⟨r1, r2⟩ := goalR 1 (by simp only [rdp_res, b4, cond_dec b3, Int.toNat_natCast, cond_dec hc', cond_true, cond_false])
      exact ⟨t1, r1, t2.trans r2.symm, by rw [t2]; omega, by rw [t2]; omega⟩
    · have hc' : ¬ (rd N i 15).int > 0 := by omega
      obtain ⟨x, hx⟩ : ∃ x : Nat, (rd N i 12).int = (x : Int) := ⟨(rd N i 12).int.toNat, by omega⟩
      obtain ⟨y, hy⟩ : ∃ y : Nat, (rd N i 13).int = (y : Int) := ⟨(rd N i 13).int.toNat, by omega⟩
      rw [hx] at h2 h3
      rw [hy] at h4 h5
      obtain ⟨x1, x2, x3, x4, x5⟩ := ih x (by omega) (by omega)
      obtain ⟨y1, y2, y3, y4, y5⟩ := ih y (by omega) (by omega)
      have n1 : ¬ (x : Int) ≤ (i : Int) := by omega
      have n2 : ¬ (y : Int) ≤ (i : Int) := by omega
      obtain ⟨u, hu⟩ : ∃ u, u = (tdpAt k).i.v N o (x : Int) := ⟨_, rfl⟩
      obtain ⟨w, hw⟩ : ∃ w, w = (tdpAt k).i.v N o (y : Int) := ⟨_, rfl⟩
      rw [← hu] at x3 x4 x5
      rw [← hw] at y3 y4 y5
      obtain ⟨t1, t2⟩ := goalT (1 + if w > u then w else u) (by
        simp only [tdp_res, cond_not b1, cond_not b2, cond_dec b3, Int.toNat_natCast, cond_not hc', hx, hy, cond_not n1, cond_not n2, x1, y1, cond_true, ← hu, ← hw]
        rw [wrap_in (by split <;> omega) (by split <;> omega)])
      obtain ⟨r1, r2⟩ := goalR (1 + if w > u then w else u) (by
        simp only [rdp_res, b4, cond_dec b3, Int.toNat_natCast, cond_not hc', hx, hy, x2, y2, cond_true, cond_false, ← x3, ← y3]
        by_cases hgt : u > w
        · rw [cond_dec hgt, wrap_in (by omega) (by omega), if_neg (by omega), Int.add_comm]
        · rw [cond_not hgt, wrap_in (by omega) (by omega)]
          by_cases hgt2 : w > u
          · rw [if_pos hgt2, Int.add_comm]
          · rw [if_neg hgt2, show w = u by omega, Int.add_comm])
      exact ⟨t1, r1, t2.trans r2.symm, by rw [t2]; split <;> omega, by rw [t2]; split <;> omega⟩
end Go.Proofs.Ytpfaejbdbdjhhaa
