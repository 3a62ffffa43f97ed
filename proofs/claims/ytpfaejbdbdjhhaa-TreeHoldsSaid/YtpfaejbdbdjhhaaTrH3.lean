/- Trees: a pass over the nodes, block by block. No condition. -/
import Derived.Test.YtpfaejbdbdjhhaaTrH2
set_option linter.unusedVariables false
set_option linter.unusedSimpArgs false
namespace Go.Proofs.Ytpfaejbdbdjhhaa
open Go.RowKit

/-- A block of nodes and its shapes, in place. -/
structure Lies (x0 OO NN : List (List Ct)) (base first : Nat) (N : List (List Ct) × List Int) : Prop where
  nl : base + N.1.length ≤ NN.length
  ol : first + N.2.length ≤ OO.length
  n : ∀ i, i < N.1.length → ∀ j, rd NN (base + i) j = rd N.1 i j
  o : ∀ i, i < N.2.length → (rd OO (first + i) 0).int = N.2.getD i 0
theorem Lies.pr {x0 OO NN : List (List Ct)} {base first : Nat} {N : List (List Ct) × List Int} (h : Lies x0 OO NN base first N) {i : Nat} (hi : i < N.1.length) : prI NN ((base + i : Nat) : Int) = prI N.1 (i : Int) := by
  simp only [prI, Int.toNat_natCast, h.n i hi]
theorem getD_app_left {a b : List Int} {i : Nat} (h : i < a.length) : (a ++ b).getD i 0 = a.getD i 0 := by
  rw [List.getD_eq_getElem?_getD, List.getElem?_append_left h, List.getD_eq_getElem?_getD]
theorem getD_app_right {a b : List Int} {i : Nat} : (a ++ b).getD (a.length + i) 0 = b.getD i 0 := by
  rw [List.getD_eq_getElem?_getD, List.getElem?_append_right (by omega), Nat.add_sub_cancel_left, List.getD_eq_getElem?_getD]
/-- What a pass over a block does. -/
def BlockOk (x0 OO NN : List (List Ct)) (k : Nat) : Prop := ∀ (base first : Nat) (l : List Int) (seen named : List (List Ct)), 0 < l.length → l.length ≤ k → l.length ≤ 128 → Lies x0 OO NN base first (nodesL (lpa_v x0) k base first l) → (∀ i ∈ l, 0 ≤ i ∧ i < (x0.length : Int)) → seen.length = x0.length → named.length = NN.length →
  (∀ i, 0 ≤ vl seen i ∧ vl seen i + (l.length : Int) ≤ 1000) → (∀ j, 0 ≤ vl named j ∧ vl named j + (k : Int) ≤ 1000) →
  ∃ seen' named', (∀ n, iter (lth_L0_step x0) (n + (nodesL (lpa_v x0) k base first l).1.length) ((first : Int), (base : Int), seen, named) = iter (lth_L0_step x0) n (((first + l.length : Nat) : Int), ((base + (nodesL (lpa_v x0) k base first l).1.length : Nat) : Int), seen', named')) ∧
    seen'.length = x0.length ∧ named'.length = NN.length ∧ (∀ i : Nat, vl seen' i = vl seen i + (l.count (i : Int) : Int)) ∧ ∀ j, vl named' j = vl named j + (if base < j ∧ j < base + (nodesL (lpa_v x0) k base first l).1.length then 1 else 0)
theorem block_ok {x0 OO NN : List (List Ct)} (sc : Scene x0 OO NN) : ∀ k, k ≤ 900 → BlockOk x0 OO NN k := by
  intro k
  induction k with
  | zero => intro _ base first l seen named h0 h1; omega
  | succ k ih =>
    intro hk9 base first l seen named h0 h1 h128 hL hr hs hn hbs hbn
    have ih := ih (by omega)
    have hnn := sc.nn
    have hoo := sc.oo
    have hp0 := nodes_perm (lpa_v x0) (k + 1) base first l h0 h1
    have hpr : prI NN ((base : Nat) : Int) = arL (lpa_v x0) l := by
      have := hL.pr (i := 0) hp0.2.2
      rw [Nat.add_zero] at this
      rw [this]
      exact nodes_head (lpa_v x0) (by omega)
    have hrow : ∀ j, rd NN base j = rd (nodesL (lpa_v x0) (k + 1) base first l).1 0 j := fun j => by have := hL.n 0 hp0.2.2 j; rwa [Nat.add_zero] at this
    have hQ : ∀ i ∈ l, 0 ≤ i ∧ i < ((lpa_v x0).length : Int) := by rw [sc.q]; exact hr
    unfold nodesL at hL hrow hp0 ⊢
    by_cases h4 : l.length ≤ 4
    · rw [if_pos h4] at hL hrow hp0
      simp only [if_pos h4]
      have hnl := hL.nl
      have hol := hL.ol
      have he := hL.o
      simp only [List.length_cons, List.length_nil] at hnl hol he
      have h14 : (rd NN base 14).int = (first : Int) := by rw [hrow]; rfl
      have h15 : (rd NN base 15).int = (l.length : Int) := by rw [hrow]; rfl
      have hh : ∀ q, q < l.length → lth_c92067869 x0 (base : Int) (q : Int) = true := by
        intro q hq
        have w : IntKind.i64.wrap ((first : Int) + (l.length : Int)) = ((first + l.length : Nat) : Int) := by rw [wrap_in (by omega) (by omega)]; omega
        have pe : (rd (partOf OO (first : Int) ((first + l.length : Nat) : Int)) q 0).int = l.getD q 0 := by
          rw [rd_part (by simp only [Int.toNat_natCast]; omega), Int.toNat_natCast, he q hq]
        have key := holds_one (lpa_v x0) (getD_mem hq)
        rw [← hpr] at key
        unfold lth_c92067869
        simp only [sc.c, Int.toNat_natCast, h14, h15, w, pe]
        exact key
      obtain ⟨seen', r1, r2, r3⟩ := l2_runs sc (seen := seen) h128 h14 h15 hol he hr hs (fun i => ⟨(hbs i).1, by have := (hbs i).2; omega⟩) hh
      refine ⟨seen', named, fun n => ?_, by rw [r2, hs], hn, r3, fun j => ?_⟩
      · have p2 : lth_L2_p x0 (base : Int) seen = true := by unfold lth_L2_p; rw [r1]; rfl
        have v2 : lth_L2_v x0 (base : Int) seen = .inl ((l.length : Int), seen') := by unfold lth_L2_v; rw [r1]; rfl
        have q1 : (base : Int) < (NN.length : Int) := by omega
        have q2 : (0 : Int) ≤ (base : Int) ∧ (base : Int) < (NN.length : Int) := by omega
        have q3 : (l.length : Int) > 0 := by omega
        have q4 : ¬ (l.length : Int) > 4 := by omega
        have q5 : ((first : Int) != (first : Int)) = false := by simp
        have w : IntKind.i64.wrap ((first : Int) + (l.length : Int)) = ((first + l.length : Nat) : Int) := by rw [wrap_in (by omega) (by omega)]; omega
        have q6 : ¬ ((first + l.length : Nat) : Int) > (OO.length : Int) := by omega
        have q7 : (0 : Int) ≤ (first : Int) ∧ (first : Int) ≤ ((first + l.length : Nat) : Int) ∧ ((first + l.length : Nat) : Int) ≤ (OO.length : Int) := by omega
        refine iter_inl ?_
        simp only [lth_L0_step, sc.c, Int.toNat_natCast, h14, h15, cond_dec q1, cond_dec q2, decide_eq_true q3, Bool.not_true, cond_false, q5, decide_eq_false q4, w, decide_eq_false q6, cond_dec q7, p2, v2, cond_true, isL, getL, wrap_succ (k := base) (by omega)]
        rfl
      · rw [if_neg (by simp only [List.length_cons, List.length_nil]; omega)]; omega
    · rw [if_neg h4] at hL hrow hp0
      simp only [if_neg h4]
      dsimp only at hL hrow hp0 ⊢
      obtain ⟨p1, p2⟩ := split_pos (lpa_v x0) (l := l) (by omega)
      have hsl := split_len (lpa_v x0) l
      have hperm := split_perm (lpa_v x0) l
      have hmem : ∀ i, i ∈ (splitL (lpa_v x0) l).1 ∨ i ∈ (splitL (lpa_v x0) l).2 → i ∈ l := fun i hi => hperm.mem_iff.1 (List.mem_append.2 hi)
      generalize hx : (splitL (lpa_v x0) l).1 = x at *
      generalize hy : (splitL (lpa_v x0) l).2 = y at *
      obtain ⟨a1, a2, a3⟩ := nodes_perm (lpa_v x0) k (base + 1) first x p1 (by omega)
      have A := ih (base + 1) first x
      have HA := nodes_head (lpa_v x0) (k := k) (base := base + 1) (first := first) (l := x) (by omega)
      generalize nodesL (lpa_v x0) k (base + 1) first x = N1 at *
      obtain ⟨b1, b2, b3⟩ := nodes_perm (lpa_v x0) k (base + 1 + N1.1.length) (first + x.length) y p2 (by omega)
      have B := ih (base + 1 + N1.1.length) (first + x.length) y
      have HB := nodes_head (lpa_v x0) (k := k) (base := base + 1 + N1.1.length) (first := first + x.length) (l := y) (by omega)
      generalize nodesL (lpa_v x0) k (base + 1 + N1.1.length) (first + x.length) y = N2 at *
      have la := a1.length_eq
      have lb := b1.length_eq
      have hnl := hL.nl
      have hol := hL.ol
      simp only [List.length_cons, List.length_append] at hnl hol
      have L1 : Lies x0 OO NN (base + 1) first N1 := ⟨by omega, by omega, fun i hi j => by
        have := hL.n (i + 1) (by simp only [List.length_cons, List.length_append]; omega) j
        rw [rd_cons_succ, rd_append, if_pos hi] at this
        rwa [show base + 1 + i = base + (i + 1) by omega], fun i hi => by
        have := hL.o i (by simp only [List.length_append]; omega)
        rwa [getD_app_left hi] at this⟩
      have L2 : Lies x0 OO NN (base + 1 + N1.1.length) (first + x.length) N2 := ⟨by omega, by omega, fun i hi j => by
        have := hL.n (N1.1.length + i + 1) (by simp only [List.length_cons, List.length_append]; omega) j
        rw [rd_cons_succ, rd_append, if_neg (by omega), Nat.add_sub_cancel_left] at this
        rwa [show base + 1 + N1.1.length + i = base + (N1.1.length + i + 1) by omega], fun i hi => by
        have := hL.o (N1.2.length + i) (by simp only [List.length_append]; omega)
        rw [getD_app_right] at this
        rwa [show first + x.length + i = first + (N1.2.length + i) by omega]⟩
      have h12 : (rd NN base 12).int = ((base + 1 : Nat) : Int) := by rw [hrow]; rfl
      have h13 : (rd NN base 13).int = ((base + 1 + N1.1.length : Nat) : Int) := by rw [hrow]; rfl
      have h15 : (rd NN base 15).int = 0 := by rw [hrow]; rfl
      have prL : prI NN ((base + 1 : Nat) : Int) = arL (lpa_v x0) x := by
        have := L1.pr (i := 0) a3
        rw [Nat.add_zero] at this
        rw [this]; exact HA
      have prR : prI NN ((base + 1 + N1.1.length : Nat) : Int) = arL (lpa_v x0) y := by
        have := L2.pr (i := 0) b3
        rw [Nat.add_zero] at this
        rw [this]; exact HB
      have cl : lth_c26810666 x0 (base : Int) = true := by
        have key := holds_sub (lpa_v x0) p1 (fun i hi => hmem i (.inl hi))
        rw [← hpr, ← prL] at key
        unfold lth_c26810666
        simp only [sc.c, Int.toNat_natCast, h12]
        exact key
      have cr : lth_c35479960 x0 (base : Int) = true := by
        have key := holds_sub (lpa_v x0) p2 (fun i hi => hmem i (.inr hi))
        rw [← hpr, ← prR] at key
        unfold lth_c35479960
        simp only [sc.c, Int.toNat_natCast, h13]
        exact key
      have wa : IntKind.i64.wrap ((rd named (base + 1) 0).int + (1 : Int)) = vl named (base + 1) + 1 := wrap_in (by have := hbn (base + 1); have : (rd named (base + 1) 0).int = vl named (base + 1) := rfl; omega) (by have := hbn (base + 1); have : (rd named (base + 1) 0).int = vl named (base + 1) := rfl; omega)
      have hA := fun v i => vl_inc (s := named) (p := base + 1) (by omega) v i
      obtain ⟨nm1, hnm1⟩ : ∃ m, m = named.set (base + 1) (updRow 1 0 [Ct.i (vl named (base + 1) + 1)] (named.getD (base + 1) [])) := ⟨_, rfl⟩
      have ln1 : nm1.length = NN.length := by rw [hnm1, List.length_set, hn]
      have v1 : ∀ j, vl nm1 j = vl named j + (if j = base + 1 then 1 else 0) := fun j => by
        rw [hnm1, hA]
        by_cases h : j = base + 1
        · rw [if_pos h, if_pos h, h]
        · rw [if_neg h, if_neg h]; omega
      have vR := v1 (base + 1 + N1.1.length)
      rw [if_neg (by omega)] at vR
      have wb : IntKind.i64.wrap ((rd nm1 (base + 1 + N1.1.length) 0).int + (1 : Int)) = vl nm1 (base + 1 + N1.1.length) + 1 := wrap_in (by have := hbn (base + 1 + N1.1.length); have : (rd nm1 (base + 1 + N1.1.length) 0).int = vl nm1 (base + 1 + N1.1.length) := rfl; omega) (by have := hbn (base + 1 + N1.1.length); have : (rd nm1 (base + 1 + N1.1.length) 0).int = vl nm1 (base + 1 + N1.1.length) := rfl; omega)
      have hB := fun v i => vl_inc (s := nm1) (p := base + 1 + N1.1.length) (by omega) v i
      obtain ⟨nm2, hnm2⟩ : ∃ m, m = nm1.set (base + 1 + N1.1.length) (updRow 1 0 [Ct.i (vl nm1 (base + 1 + N1.1.length) + 1)] (nm1.getD (base + 1 + N1.1.length) [])) := ⟨_, rfl⟩
      have ln2 : nm2.length = NN.length := by rw [hnm2, List.length_set, ln1]
      have v2 : ∀ j, vl nm2 j = vl named j + (if j = base + 1 ∨ j = base + 1 + N1.1.length then 1 else 0) := fun j => by
        rw [hnm2, hB]
        by_cases h : j = base + 1 + N1.1.length
        · rw [if_pos h, h, vR, if_pos (Or.inr rfl)]; omega
        · rw [if_neg h, v1]
          by_cases h' : j = base + 1
          · rw [if_pos h', if_pos (Or.inl h')]
          · rw [if_neg h', if_neg (by omega)]
      have first_step : lth_L0_step x0 ((first : Int), (base : Int), seen, named) = some (.inl ((first : Int), ((base + 1 : Nat) : Int), seen, nm2)) := by
        have q1 : (base : Int) < (NN.length : Int) := by omega
        have q2 : (0 : Int) ≤ (base : Int) ∧ (base : Int) < (NN.length : Int) := by omega
        have q3 : ¬ (0 : Int) > 0 := by omega
        have g1 : ¬ ((base + 1 : Nat) : Int) ≤ (base : Int) := by omega
        have g2 : ¬ ((base + 1 + N1.1.length : Nat) : Int) ≤ (base : Int) := by omega
        have g3 : ¬ ((base + 1 : Nat) : Int) ≥ (NN.length : Int) := by omega
        have g4 : ¬ ((base + 1 + N1.1.length : Nat) : Int) ≥ (NN.length : Int) := by omega
        have g5 : (0 : Int) ≤ ((base + 1 : Nat) : Int) ∧ ((base + 1 : Nat) : Int) < (NN.length : Int) := by omega
        have g6 : (0 : Int) ≤ ((base + 1 + N1.1.length : Nat) : Int) ∧ ((base + 1 + N1.1.length : Nat) : Int) < (NN.length : Int) := by omega
        have ln1' : (named.set (base + 1) (updRow 1 0 [Ct.i (vl named (base + 1) + 1)] (named.getD (base + 1) []))).length = NN.length := by rw [← hnm1]; exact ln1
        simp only [lth_L0_step, sc.c, Int.toNat_natCast, h12, h13, h15, cond_dec q1, cond_dec q2, decide_eq_false q3, Bool.not_false, cond_true, decide_eq_false g1, decide_eq_false g2, decide_eq_false g3, decide_eq_false g4, cond_false, cl, cr, Bool.not_true, decide_eq_true g5, decide_eq_true g6, Bool.and_self, hn, wa, ln1', wrap_succ (k := base) (by omega)]
        rw [← hnm1]
        simp only [wb]
        rw [← hnm2]
      obtain ⟨s1, m1, c1, c2, c3, c4, c5⟩ := A seen nm2 p1 (by omega) (by omega) L1 (fun i hi => hr i (hmem i (.inl hi))) hs ln2 (fun i => ⟨(hbs i).1, by have := (hbs i).2; omega⟩) (fun j => by
        have := hbn j
        rw [v2]
        split <;> exact ⟨by omega, by omega⟩)
      have cx : ∀ i : Nat, x.count (i : Int) ≤ x.length := fun i => List.count_le_length
      obtain ⟨s2, m2, d1, d2, d3, d4, d5⟩ := B s1 m1 p2 (by omega) (by omega) L2 (fun i hi => hr i (hmem i (.inr hi))) c2 c3 (fun i => ⟨by rw [c4]; have := (hbs i).1; omega, by rw [c4]; have := (hbs i).2; have := cx i; omega⟩) (fun j => by
        have := hbn j
        rw [c5, v2]
        split <;> split <;> exact ⟨by omega, by omega⟩)
      refine ⟨s2, m2, fun n => ?_, d2, d3, fun i => ?_, fun j => ?_⟩
      · simp only [List.length_cons, List.length_append]
        rw [show n + (N1.1.length + N2.1.length + 1) = (n + N2.1.length + N1.1.length) + 1 by omega, iter_inl first_step, c1, d1]
        rw [show first + x.length + y.length = first + l.length by omega, show base + 1 + N1.1.length + N2.1.length = base + (N1.1.length + N2.1.length + 1) by omega]
      · rw [d4, c4, ← hperm.count_eq, List.count_append]; omega
      · rw [d5, c5, v2]
        simp only [List.length_cons, List.length_append]
        split <;> split <;> split <;> split <;> omega
end Go.Proofs.Ytpfaejbdbdjhhaa
