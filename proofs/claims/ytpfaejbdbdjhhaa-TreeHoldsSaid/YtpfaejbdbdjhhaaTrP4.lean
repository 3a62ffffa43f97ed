/- Trees: the program's trees, in plain numbers. No condition. -/
import Derived.Test.YtpfaejbdbdjhhaaTrP3
set_option linter.unusedVariables false
set_option linter.unusedSimpArgs false
namespace Go.Proofs.Ytpfaejbdbdjhhaa
open Go.RowKit

theorem nod_ok : NodeOk (tnoAt 140).i 140 := node_ok 140
theorem tnn_is {o Q m : List (List Ct)} {l : List Int} (h : col o = l) (h0 : 0 < l.length) (hk : l.length ≤ 140) (hr : ∀ i ∈ l, 0 ≤ i ∧ i < Q.length) (hm : Mids Q m) :
    ∃ o', tnn_res o Q m (0 : Int) (l.length : Int) = some (o', Q, m, (nodesL Q 141 0 0 l).1) ∧ col o' = (nodesL Q 141 0 0 l).2 := by
  have h' : col o = [] ++ l ++ [] := by rw [h]; simp
  have hl : l.length ≤ 1000 := by omega
  have z0 : Int.toNat (0 : Int) = 0 := rfl
  have ol : o.length = l.length := by rw [← col_length, h]
  have ta := tan_is (Q := Q) h' h0 hl hr
  have va : tan_v o Q (0 : Int) (l.length : Int) = arL Q l := by unfold tan_v; rw [show tan_res o Q (0 : Int) (l.length : Int) = some (arL Q l) from ta]; rfl
  have c1 : tnn_c79054743 o Q (0 : Int) (l.length : Int) = arL Q l := by unfold tnn_c79054743; simp only [Int.toNat_natCast, z0, Nat.sub_zero, Int.natCast_zero]; exact va
  have ta' : tan_res o Q (0 : Int) (l.length : Int) = some (arL Q l) := ta
  have q1 : (0 : Int) ≤ (0 : Int) ∧ (0 : Int) ≤ (l.length : Int) ∧ (l.length : Int) ≤ (o.length : Int) ∧ 0 < o.length := ⟨by omega, by omega, by omega, by omega⟩
  have hRR : [[Ct.i (tnn_c79054743 o Q (0 : Int) (l.length : Int)).1, Ct.i (tnn_c79054743 o Q (0 : Int) (l.length : Int)).2.1, Ct.i (tnn_c79054743 o Q (0 : Int) (l.length : Int)).2.2.1, Ct.i (tnn_c79054743 o Q (0 : Int) (l.length : Int)).2.2.2.1, Ct.i (tnn_c79054743 o Q (0 : Int) (l.length : Int)).2.2.2.2.1, Ct.i (tnn_c79054743 o Q (0 : Int) (l.length : Int)).2.2.2.2.2.1, Ct.i (tnn_c79054743 o Q (0 : Int) (l.length : Int)).2.2.2.2.2.2.1, Ct.i (tnn_c79054743 o Q (0 : Int) (l.length : Int)).2.2.2.2.2.2.2.1, Ct.i (tnn_c79054743 o Q (0 : Int) (l.length : Int)).2.2.2.2.2.2.2.2.1, Ct.i (tnn_c79054743 o Q (0 : Int) (l.length : Int)).2.2.2.2.2.2.2.2.2.1, Ct.i (tnn_c79054743 o Q (0 : Int) (l.length : Int)).2.2.2.2.2.2.2.2.2.2.1, Ct.i (tnn_c79054743 o Q (0 : Int) (l.length : Int)).2.2.2.2.2.2.2.2.2.2.2, Ct.i (Int.negSucc 0), Ct.i (Int.negSucc 0), Ct.i (0 : Int), Ct.i (0 : Int)]] = [row16 (arL Q l) (-1) (-1) 0 0] := by rw [c1]; rfl
  have q2 : 0 + (0 + 1) ≤ 9223372036854775807 ∧ (0 + (0 + 1)) * 128 ≤ 140737488355328 := by omega
  unfold tnn_res
  rw [hRR]
  simp only [Int.toNat_natCast, z0, Nat.sub_zero, Int.natCast_zero, cond_dec q1, ta', Option.isSome_some, cond_true, List.length_cons, List.length_nil, cond_dec q2, List.nil_append]
  unfold nodesL
  have s1 : ∀ (r r' : List Ct) (rest : List (List Ct)), (r :: rest).set 0 r' = r' :: rest := fun _ _ _ => rfl
  have s2 : ∀ (r : List Ct) (rest : List (List Ct)), (r :: rest).getD 0 [] = r := fun _ _ => rfl
  have q6 : ∀ (r : List Ct) (rest : List (List Ct)), (0 : Int) ≤ (0 : Int) ∧ (0 : Int) < ((r :: rest).length : Int) := fun r rest => by simp only [List.length_cons]; omega
  by_cases h4 : l.length ≤ 4
  · have h4' : (l.length : Int) ≤ 4 := by omega
    have q7 : (0 : Int) ≤ (0 : Int) ∧ (0 : Int) < ((0 + 1 : Nat) : Int) := by omega
    refine ⟨o, ?_, ?_⟩
    · rw [if_pos h4]
      simp only [cond_dec h4', s1, s2, upd_first, upd_count, List.length_cons, List.length_nil, cond_dec q7]
      rfl
    · rw [if_pos h4]; exact h
  · have h4' : ¬ (l.length : Int) ≤ 4 := by omega
    rw [if_neg h4]
    simp only [cond_not h4']
    obtain ⟨o1, t1, t2⟩ := tsp_is h' (by omega) hl hr hm
    have t1' : tsp_res o Q m (0 : Int) (l.length : Int) = some (((splitL Q l).1.length : Int), o1) := t1
    have vs : tsp_v o Q m (0 : Int) (l.length : Int) = (((splitL Q l).1.length : Int), o1) := by unfold tsp_v; rw [t1']; rfl
    have c2 : tnn_c92230238 o Q m (0 : Int) (l.length : Int) = (((splitL Q l).1.length : Int), o1) := by unfold tnn_c92230238; simp only [Int.toNat_natCast, z0, Nat.sub_zero, Int.natCast_zero]; exact vs
    obtain ⟨p1, p2⟩ := split_pos Q (l := l) (by omega)
    have hs := split_len Q l
    have hmem : ∀ i, i ∈ (splitL Q l).1 ∨ i ∈ (splitL Q l).2 → i ∈ l := fun i hi => (split_perm Q l).mem_iff.1 (List.mem_append.2 hi)
    generalize (splitL Q l).1 = x at *
    generalize (splitL Q l).2 = y at *
    have w1 : IntKind.i64.wrap ((0 : Int) + (x.length : Int)) = ((0 + x.length : Nat) : Int) := by rw [wrap_in (by omega) (by omega)]; omega
    have t2' : col o1 = [] ++ x ++ (y ++ []) := by rw [t2]; simp
    obtain ⟨g1, o2, g2, g3⟩ := nod_ok [row16 (arL Q l) (-1) (-1) 0 0] o1 Q m [] x (y ++ []) t2' p1 (by omega) (by simp only [List.length_nil]; omega) (by simp only [List.length_cons, List.length_nil]; omega) (fun i hi => hr i (hmem i (.inl hi))) hm
    obtain ⟨n1, n2, n3⟩ := nodes_perm Q 140 1 0 x p1 (by omega)
    simp only [List.length_nil, List.length_cons, Nat.zero_add] at g1 g2 g3
    generalize hN : nodesL Q 140 1 0 x = N1 at *
    have hN1 := n1.length_eq
    have t3 : col o2 = N1.2 ++ y ++ [] := by rw [g3]; simp
    obtain ⟨k1, o3, k2, k3⟩ := nod_ok ([row16 (arL Q l) (-1) (-1) 0 0] ++ N1.1) o2 Q m N1.2 y [] t3 p2 (by omega) (by omega) (by simp only [List.length_append, List.length_cons, List.length_nil]; omega) (fun i hi => hr i (hmem i (.inr hi))) hm
    have ll2 : ([row16 (arL Q l) (-1) (-1) 0 0] ++ N1.1).length = 1 + N1.1.length := by simp; omega
    rw [hN1, ll2] at k2 k3
    rw [hN1] at k1
    rw [show x.length + y.length = l.length by omega] at k1 k2
    have f1 : [row16 (arL Q l) (-1) (-1) 0 0] ++ N1.1 = row16 (arL Q l) (-1) (-1) 0 0 :: N1.1 := rfl
    rw [f1] at k1 k2
    simp only [Nat.zero_add] at w1 ⊢
    generalize hN' : nodesL Q 140 (1 + N1.1.length) x.length y = N2 at *
    have G1 : nod_p [row16 (arL Q l) (-1) (-1) 0 0] o1 Q m (0 : Int) (x.length : Int) = true := g1
    have G2 : nod_v [row16 (arL Q l) (-1) (-1) 0 0] o1 Q m (0 : Int) (x.length : Int) = (((1 : Nat) : Int), o2, [row16 (arL Q l) (-1) (-1) 0 0] ++ N1.1) := g2
    have d1 : tnn_c25687500 o Q m (0 : Int) (l.length : Int) = (((1 : Nat) : Int), o2, row16 (arL Q l) (-1) (-1) 0 0 :: N1.1) := by
      unfold tnn_c25687500
      rw [hRR, c2]
      simp only [Int.zero_add] at w1 ⊢
      rw [w1]
      exact G2
    have K1 : nod_p (row16 (arL Q l) (-1) (-1) 0 0 :: N1.1) o2 Q m (x.length : Int) (l.length : Int) = true := k1
    have d2 : tnn_c84321183 o Q m (0 : Int) (l.length : Int) = (((1 + N1.1.length : Nat) : Int), o3, (row16 (arL Q l) (-1) (-1) 0 0 :: N1.1) ++ N2.1) := by
      unfold tnn_c84321183
      rw [d1, c2]
      simp only [Int.zero_add] at w1 ⊢
      rw [w1]
      exact k2
    refine ⟨o3, ?_, ?_⟩
    · simp only [Int.zero_add] at w1
      simp only [t1', c2, w1, Int.zero_add, G1, d1, K1, d2, Option.isSome_some, cond_true, List.cons_append, s1, s2, upd_left, upd_right, cond_dec (q6 _ _)]
    · rw [k3]; simp
/-- The shapes' numbers, one behind the other. -/
def idsL (n : Nat) : List Int := (List.range n).map fun (k : Nat) => (k : Int)
theorem idsL_length (n : Nat) : (idsL n).length = n := by simp [idsL]
theorem idsL_mem {n : Nat} {i : Int} (h : i ∈ idsL n) : 0 ≤ i ∧ i < n := by
  simp only [idsL, List.mem_map, List.mem_range] at h
  obtain ⟨k, hk, rfl⟩ := h
  omega
theorem col_ids (n : Nat) : col (tab (fun k => [Ct.i (k : Int)]) n) = idsL n := by
  simp [col, tab, idsL, Function.comp_def, Ct.int]
theorem tma_is {x0 : List (List Ct)} (h0 : 0 < x0.length) (h1 : x0.length ≤ 128) :
    ∃ o', tma_res x0 = some (o', (nodesL x0 141 0 0 (idsL x0.length)).1) ∧ col o' = (nodesL x0 141 0 0 (idsL x0.length)).2 := by
  have hmid : ∀ k : Nat, [Ct.i (tma_c88174535 x0 (k : Int)).1, Ct.i (tma_c88174535 x0 (k : Int)).2.1, Ct.i (tma_c88174535 x0 (k : Int)).2.2] = midRow (prI x0 k) := fun k => by
    unfold tma_c88174535 tma_c69258738
    rfl
  have it := iter_range (step := tma_L0_step x0) (A := List (List Ct) × List (List Ct)) (fun k a => ((k : Int), a.1, a.2)) (fun k a => a.1.length = k ∧ a.2.length = k) (f := fun k a => (a.1 ++ [[Ct.i (k : Int)]], a.2 ++ [midRow (prI x0 k)])) (out := fun a => ((x0.length : Int), a.1, a.2)) (n := x0.length) (m := x0.length + 1) (v := ((0 : Int), [], [])) (a0 := ([], []))
    rfl (by omega)
    (fun k hk a ha => ⟨by
      have q1 : (k : Int) < (x0.length : Int) := by omega
      have q2 : (0 : Int) ≤ (k : Int) ∧ (k : Int) < (x0.length : Int) := ⟨by omega, q1⟩
      have q3 : a.1.length + (0 + 1) ≤ 9223372036854775807 ∧ (a.1.length + (0 + 1)) * 8 ≤ 140737488355328 := by omega
      have q4 : a.2.length + (0 + 1) ≤ 9223372036854775807 ∧ (a.2.length + (0 + 1)) * 24 ≤ 140737488355328 := by omega
      simp only [tma_L0_step, List.length_cons, List.length_nil, cond_dec q1, cond_dec q2, cond_dec q3, cond_dec q4, wrap_in (n := (k : Int) + 1) (by omega) (by omega), hmid]
      rfl, by simp only [List.length_append, List.length_cons, List.length_nil]; omega⟩)
    (fun a _ => by
      simp only [tma_L0_step]
      rw [cond_not (by omega)]) ⟨rfl, rfl⟩
  have hf : ∀ n, nfold (fun (k : Nat) (a : List (List Ct) × List (List Ct)) => (a.1 ++ [[Ct.i (k : Int)]], a.2 ++ [midRow (prI x0 k)])) n ([], []) = (tab (fun k => [Ct.i (k : Int)]) n, tab (fun k => midRow (prI x0 k)) n) := by
    intro n
    induction n with
    | zero => rfl
    | succ n ih => simp only [nfold, ih, ← tab_succ]
  rw [hf] at it
  have p0 : tma_L0_p x0 = true := by unfold tma_L0_p; rw [it]; rfl
  have v0 : tma_L0_v x0 = ((x0.length : Int), tab (fun k => [Ct.i (k : Int)]) x0.length, tab (fun k => midRow (prI x0 k)) x0.length) := by unfold tma_L0_v loopRes; rw [it]; rfl
  have hm : Mids x0 (tab (fun k => midRow (prI x0 k)) x0.length) := ⟨tab_length _ _, fun j hj => by rw [rd_tab hj, rd_tab hj, rd_tab hj]; exact ⟨rfl, rfl, rfl⟩⟩
  obtain ⟨o', t1, t2⟩ := tnn_is (Q := x0) (col_ids x0.length) (by rw [idsL_length]; exact h0) (by rw [idsL_length]; omega) (fun i hi => idsL_mem hi) hm
  rw [idsL_length] at t1
  have vn : tma_c56337448 x0 = (o', x0, tab (fun k => midRow (prI x0 k)) x0.length, (nodesL x0 141 0 0 (idsL x0.length)).1) := by
    unfold tma_c56337448 tnn_v
    rw [v0, List.nil_append, t1]; rfl
  refine ⟨o', ?_, t2⟩
  have b1 : ((x0.length : Int) == (0 : Int)) = false := by rw [beq_eq_false_iff_ne]; omega
  have b2 : ¬ (x0.length : Int) > 128 := by omega
  have q1 : 0 + x0.length ≤ 9223372036854775807 ∧ (0 + x0.length) * 96 ≤ 140737488355328 := by omega
  simp only [tma_res, cond_dec h0, cond_dec q1, b1, cond_not b2, p0, v0, List.nil_append, t1, vn, Option.isSome_some, cond_true, cond_false]
theorem tma_far {x0 : List (List Ct)} (h0 : 128 < x0.length) (h1 : x0.length ≤ 1000) : tma_res x0 = some ([], []) := by
  have b1 : ((x0.length : Int) == (0 : Int)) = false := by rw [beq_eq_false_iff_ne]; omega
  have b2 : (x0.length : Int) > 128 := by omega
  have b3 : 0 < x0.length := by omega
  have q1 : 0 + x0.length ≤ 9223372036854775807 ∧ (0 + x0.length) * 96 ≤ 140737488355328 := by omega
  simp only [tma_res, cond_dec b3, cond_dec q1, b1, cond_dec b2, cond_false]
end Go.Proofs.Ytpfaejbdbdjhhaa
