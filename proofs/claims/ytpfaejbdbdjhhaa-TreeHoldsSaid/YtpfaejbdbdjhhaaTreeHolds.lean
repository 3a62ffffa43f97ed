/- The law TreeHolds: it answers true for all values. No condition. -/
import Derived.Test.YtpfaejbdbdjhhaaTrH3
set_option linter.unusedVariables false
set_option linter.unusedSimpArgs false
namespace Go.Proofs.Ytpfaejbdbdjhhaa
open Go.RowKit

theorem idsL_succ (n : Nat) : idsL (n + 1) = idsL n ++ [(n : Int)] := by simp [idsL, List.range_succ]
theorem ids_count (n i : Nat) : (idsL n).count (i : Int) = if i < n then 1 else 0 := by
  induction n with
  | zero => rfl
  | succ n ih =>
    have e : List.count (i : Int) [(n : Int)] = if i = n then 1 else 0 := by
      by_cases h : i = n
      · subst h; rw [if_pos rfl]; simp
      · have : ((n : Int) == (i : Int)) = false := by rw [beq_eq_false_iff_ne]; omega
        rw [if_neg h, List.count_cons, List.count_nil, this]; rfl
    rw [idsL_succ, List.count_append, ih, e]
    split <;> split <;> split <;> omega
theorem vl_zeros (n i : Nat) : vl (List.replicate n [Ct.i (0 : Int)]) i = 0 := by
  unfold vl rd
  by_cases h : i < n
  · simp [List.getD_eq_getElem?_getD, h]; rfl
  · simp [List.getD_eq_getElem?_getD, h]; rfl
theorem lth_true {x0 : List (List Ct)} (h0 : 0 < x0.length) : lth_res x0 = some true := by
  by_cases c1 : (x0.length : Int) > 128
  · simp only [lth_res, cond_dec c1, cond_true]
  obtain ⟨l1, l2⟩ := lpa_len x0 (by omega)
  have a1 : (lpa_res x0).isSome = true := by rw [lpa_is (by omega)]; rfl
  obtain ⟨o, t1, t2⟩ := tma_is (x0 := lpa_v x0) (by omega) (by omega)
  rw [l1] at t1 t2
  have il := idsL_length x0.length
  obtain ⟨n1, n2, n3⟩ := nodes_perm (lpa_v x0) 141 0 0 (idsL x0.length) (by omega) (by omega)
  have n1l := n1.length_eq
  have ol : o.length = x0.length := by rw [← col_length, t2, n1l, il]
  have cc : lth_c25082182 x0 = (o, (nodesL (lpa_v x0) 141 0 0 (idsL x0.length)).1) := by unfold lth_c25082182 tma_v; rw [t1]; rfl
  have a2 : (tma_res (lpa_v x0)).isSome = true := by rw [t1]; rfl
  have sc : Scene x0 o (nodesL (lpa_v x0) 141 0 0 (idsL x0.length)).1 := ⟨cc, l1, by omega, by omega⟩
  have L : Lies x0 o (nodesL (lpa_v x0) 141 0 0 (idsL x0.length)).1 0 0 (nodesL (lpa_v x0) 141 0 0 (idsL x0.length)) := ⟨by omega, by omega, fun i hi j => by rw [Nat.zero_add], fun i hi => by rw [Nat.zero_add, rd_col, t2]⟩
  obtain ⟨s, m, r1, r2, r3, r4, r5⟩ := block_ok sc 141 (by omega) 0 0 (idsL x0.length) (List.replicate x0.length [Ct.i (0 : Int)]) (List.replicate (nodesL (lpa_v x0) 141 0 0 (idsL x0.length)).1.length [Ct.i (0 : Int)]) (by omega) (by omega) (by omega) L (fun i hi => idsL_mem hi) (by rw [List.length_replicate]) (by rw [List.length_replicate]) (fun i => by rw [vl_zeros]; omega) (fun j => by rw [vl_zeros]; omega)
  rw [il] at n2 r1
  generalize (nodesL (lpa_v x0) 141 0 0 (idsL x0.length)).1 = NN at *
  have e0 : iter (lth_L0_step x0) 1000 ((0 : Int), (0 : Int), List.replicate x0.length [Ct.i (0 : Int)], List.replicate NN.length [Ct.i (0 : Int)]) = some (.inl ((x0.length : Int), (NN.length : Int), s, m)) := by
    have := r1 (1000 - NN.length)
    rw [show 1000 - NN.length + NN.length = 1000 by omega] at this
    simp only [Nat.zero_add] at this
    refine Eq.trans this ?_
    obtain ⟨q, hq⟩ : ∃ q, 1000 - NN.length = q + 1 := ⟨999 - NN.length, by omega⟩
    rw [hq]
    refine iter_inr ?_
    simp only [lth_L0_step, cc]
    rw [cond_not (by omega)]
  have p0 : lth_L0_p x0 = true := by unfold lth_L0_p; simp only [cc, Int.toNat_natCast]; rw [e0]; rfl
  have v0 : lth_L0_v x0 = .inl ((x0.length : Int), (NN.length : Int), s, m) := by unfold lth_L0_v; simp only [cc, Int.toNat_natCast]; rw [e0]; rfl
  have e2 : ∀ x : Int, (x != x) = false := fun x => by simp
  have i4 : iter (lth_L4_step x0) 1000 0 = some (.inl (s.length : Int)) := by
    refine iter_run (fun k : Nat => (k : Int)) (n := s.length) rfl (fun k hk => ?_) ?_ (by omega)
    · have q1 : (k : Int) < (s.length : Int) := by omega
      have q2 : (0 : Int) ≤ (k : Int) ∧ (k : Int) < (s.length : Int) := ⟨by omega, q1⟩
      have q3 : (rd s k 0).int = 1 := by
        have := r4 k
        rw [vl_zeros, ids_count, if_pos (by omega)] at this
        exact this
      simp only [lth_L4_step, v0, getL, cond_dec q1, cond_dec q2, Int.toNat_natCast, q3, e2, cond_false, wrap_succ (k := k) (by omega)]
    · simp only [lth_L4_step, v0, getL]
      rw [cond_not (by omega)]
  have i6 : iter (lth_L6_step x0) 1000 0 = some (.inl (m.length : Int)) := by
    refine iter_run (fun k : Nat => (k : Int)) (n := m.length) rfl (fun k hk => ?_) ?_ (by omega)
    · have q1 : (k : Int) < (m.length : Int) := by omega
      have q2 : (0 : Int) ≤ (k : Int) ∧ (k : Int) < (m.length : Int) := ⟨by omega, q1⟩
      have q3 : (rd m k 0).int = if (1 : Int) < (k : Int) then (1 : Int) else (k : Int) := by
        have h5 : (rd m k 0).int = 0 + (if 0 < k ∧ k < 0 + NN.length then (1 : Int) else 0) := by have := r5 k; rw [vl_zeros] at this; exact this
        rw [h5]
        by_cases hk0 : k = 0
        · subst hk0; rfl
        · rw [if_pos (by omega)]
          split <;> omega
      simp only [lth_L6_step, v0, getL, cond_dec q1, cond_dec q2, Int.toNat_natCast, q3, e2, cond_false, wrap_succ (k := k) (by omega)]
    · simp only [lth_L6_step, v0, getL]
      rw [cond_not (by omega)]
  have p4 : lth_L4_p x0 = true := by unfold lth_L4_p; rw [i4]; rfl
  have v4 : lth_L4_v x0 = .inl (s.length : Int) := by unfold lth_L4_v; rw [i4]; rfl
  have p6 : lth_L6_p x0 = true := by unfold lth_L6_p; rw [i6]; rfl
  have v6 : lth_L6_v x0 = .inl (m.length : Int) := by unfold lth_L6_v; rw [i6]; rfl
  have q1 : (0 : Int) ≤ (x0.length : Int) ∧ (x0.length : Int) ≤ (x0.length : Int) ∧ (8 : Int) * (x0.length : Int) ≤ (281474976710656 : Int) ∧ (x0.length : Int) ≤ (9223372036854775807 : Int) := by omega
  have q2 : (0 : Int) ≤ (NN.length : Int) ∧ (NN.length : Int) ≤ (NN.length : Int) ∧ (8 : Int) * (NN.length : Int) ≤ (281474976710656 : Int) ∧ (NN.length : Int) ≤ (9223372036854775807 : Int) := by omega
  simp only [lth_res, cond_not c1, a1, a2, cc, p0, v0, p4, v4, p6, v6, isL, getL, cond_true, beq_self_eq_true]
  exact (cond_dec q1).trans (cond_dec q2)
set_option maxRecDepth 100000 in
theorem lth_none : CallOk Try.prog 4 [.sv (.one (.ext 0))] [(0, .grid [.int .i64, .int .i64, .int .i64, .int .i64, .int .i64, .int .i64, .int .i64, .int .i64, .int .i64, .int .i64, .int .i64, .int .i64] [])] 1 (lth_O true) :=
  eng_closedA (C := cfgTreeN) noFacts_ok (n := 30) (N := 184) rfl (by kernel_rfl)
theorem lth_call (x0 : List (List Ct)) : CallOk Try.prog 4 [.sv (.one (.ext 0))] [(0, .grid [.int .i64, .int .i64, .int .i64, .int .i64, .int .i64, .int .i64, .int .i64, .int .i64, .int .i64, .int .i64, .int .i64, .int .i64] x0)] 1 (lth_O true) := by
  by_cases h0 : 0 < x0.length
  · exact lth_tree (lth_true h0)
  · have : x0 = [] := List.length_eq_zero_iff.1 (by omega)
    subst this
    exact lth_none
end Go.Proofs.Ytpfaejbdbdjhhaa
