/- What the program lays, in plain numbers. No condition. -/
import Derived.Test.YtcpbiijegbbafaaEngJob5
import Derived.Test.YtcpbiijegbbafaaJobW
set_option linter.unusedVariables false
set_option linter.unusedSimpArgs false
namespace Go.Proofs.Ytcpbiijegbbafaa
open Go.RowKit


theorem jen_L2_it {P : List (List Ct)} (hl : P.length ≤ 1048576) {R0 : List (List Ct)} (h0 : R0.length ≤ 100000000) : ∃ r', iter (jen_L2_step P) (P.length + 1) (0, R0) = some ((P.length : Int), r') ∧ r'.length ≤ R0.length + 21 * P.length ∧ col r' = col R0 ++ catF (bP P) P.length := by
  refine w_loop (step := jen_L2_step P) (bP P) 21 100000000 (fun k r hk hr => ?_) (fun r => ?_) (by omega) h0
  · obtain ⟨q1, q2⟩ := idx_ok hk
    simp only [jen_L2_step, cond_dec q1, cond_dec q2, Int.toNat_natCast, wrap_succ (k := k) (by omega), jen_c16996665, jen_c26850424, jen_c30758155, jen_c31285723, jen_c31836351, jen_c36123827, jen_c4465969, jen_c57522926, jen_c58812669, jen_c70406446, jen_c75200517, jen_c85997692, jen_c86934521, jen_c87571451, jen_c89188172, jen_c93365016, jen_c97500519]
    refine step_of ?_
    refine w_bind 1 (by rfl) (by omega) fun l0 k0 => ?_
    refine w_bind 5 (by rfl) (by omega) fun l1 k1 => ?_
    refine w_bind 5 (by rfl) (by omega) fun l2 k2 => ?_
    refine w_bind 5 (by rfl) (by omega) fun l3 k3 => ?_
    refine w_bind 5 (by rfl) (by omega) fun l4 k4 => ?_
    refine ⟨_, rfl, _, rfl, by omega, ?_⟩
    rw [k4, k3, k2, k1, k0]
    simp only [bP, bw, b3, List.append_assoc]
  · have q : ¬ ((P.length : Int) < (P.length : Int)) := by omega
    simp only [jen_L2_step, cond_not q]

theorem jen_L6_it {J : List (List Ct)} (hl : J.length ≤ 1048576) {R0 : List (List Ct)} (h0 : R0.length ≤ 300000000) : ∃ r', iter (jen_L6_step J) (J.length + 1) (0, R0) = some ((J.length : Int), r') ∧ r'.length ≤ R0.length + 11 * J.length ∧ col r' = col R0 ++ catF (bJ J) J.length := by
  refine w_loop (step := jen_L6_step J) (bJ J) 11 300000000 (fun k r hk hr => ?_) (fun r => ?_) (by omega) h0
  · obtain ⟨q1, q2⟩ := idx_ok hk
    simp only [jen_L6_step, cond_dec q1, cond_dec q2, Int.toNat_natCast, wrap_succ (k := k) (by omega), jen_c16996665, jen_c26850424, jen_c30758155, jen_c31285723, jen_c31836351, jen_c36123827, jen_c4465969, jen_c57522926, jen_c58812669, jen_c70406446, jen_c75200517, jen_c85997692, jen_c86934521, jen_c87571451, jen_c89188172, jen_c93365016, jen_c97500519]
    refine step_of ?_
    refine w_bind 2 (by rfl) (by omega) fun l0 k0 => ?_
    refine w_bind 2 (by rfl) (by omega) fun l1 k1 => ?_
    refine w_bind 2 (by rfl) (by omega) fun l2 k2 => ?_
    refine w_bind 5 (by rfl) (by omega) fun l3 k3 => ?_
    refine ⟨_, rfl, _, rfl, by omega, ?_⟩
    rw [k3, k2, k1, k0]
    simp only [bJ, bw, b3, List.append_assoc]
  · have q : ¬ ((J.length : Int) < (J.length : Int)) := by omega
    simp only [jen_L6_step, cond_not q]

theorem jen_L8_it {S : List (List Ct)} (hl : S.length ≤ 1048576) {R0 : List (List Ct)} (h0 : R0.length ≤ 400000000) : ∃ r', iter (jen_L8_step S) (S.length + 1) (0, R0) = some ((S.length : Int), r') ∧ r'.length ≤ R0.length + 50 * S.length ∧ col r' = col R0 ++ catF (bS S) S.length := by
  refine w_loop (step := jen_L8_step S) (bS S) 50 400000000 (fun k r hk hr => ?_) (fun r => ?_) (by omega) h0
  · obtain ⟨q1, q2⟩ := idx_ok hk
    obtain ⟨g1, g2, g3⟩ := @wsh_ok r (rd S k 0).int (rd S k 1).int (rd S k 2).int (rd S k 3).int (rd S k 4).int (rd S k 5).int (rd S k 6).int (rd S k 7).int (rd S k 8).int (rd S k 9).int (rd S k 10).int (rd S k 11).int (rd S k 12).int (by omega)
    simp only [jen_L8_step, cond_dec q1, cond_dec q2, Int.toNat_natCast, wrap_succ (k := k) (by omega), jen_c16996665, jen_c26850424, jen_c30758155, jen_c31285723, jen_c31836351, jen_c36123827, jen_c4465969, jen_c57522926, jen_c58812669, jen_c70406446, jen_c75200517, jen_c85997692, jen_c86934521, jen_c87571451, jen_c89188172, jen_c93365016, jen_c97500519, g1, cond_true]
    exact ⟨_, rfl, g2, g3⟩
  · have q : ¬ ((S.length : Int) < (S.length : Int)) := by omega
    simp only [jen_L8_step, cond_not q]
theorem jen_L4_it {T : List (List Ct)} (hl : T.length ≤ 60) (hk : ∀ k, k < T.length → (rd T k 1).rows.length ≤ 1000) {R0 : List (List Ct)} (h0 : R0.length ≤ 1000000) : ∃ r', iter (jen_L4_step T) (T.length + 1) (0, R0) = some ((T.length : Int), r') ∧ r'.length ≤ R0.length + 20002 * T.length ∧ col r' = col R0 ++ catF (bT T) T.length := by
  refine w_loop (step := jen_L4_step T) (bT T) 20002 1000000 (fun k r hk' hr => ?_) (fun r => ?_) (by omega) h0
  · obtain ⟨q1, q2⟩ := idx_ok hk'
    have h4 : 20002 * k ≤ 20002 * 60 := Nat.mul_le_mul_left _ (by omega)
    have := hk k hk'
    obtain ⟨g1, g2, g3⟩ := wtr_ok (R := r) (K := (rd T k 1).rows) (w := (rd T k 0).int) (by omega) (by omega)
    simp only [jen_L4_step, cond_dec q1, cond_dec q2, Int.toNat_natCast, wrap_succ (k := k) (by omega), jen_c16996665, jen_c26850424, jen_c30758155, jen_c31285723, jen_c31836351, jen_c36123827, jen_c4465969, jen_c57522926, jen_c58812669, jen_c70406446, jen_c75200517, jen_c85997692, jen_c86934521, jen_c87571451, jen_c89188172, jen_c93365016, jen_c97500519, g1, cond_true]
    exact ⟨_, rfl, by omega, g3⟩
  · have q : ¬ ((T.length : Int) < (T.length : Int)) := by omega
    simp only [jen_L4_step, cond_not q]
theorem jen_L0_is : jen_L0_p = true ∧ jen_L0_v.2.length = 4 ∧ col jen_L0_v.2 = bM := by
  have e : ∀ x : Int, x = 90 ∨ x = 79 ∨ x = 69 ∨ x = 49 → IntKind.u64.wrap (IntKind.i64.wrap x) = x := by
    intro x hx
    rw [wrap_in (by omega) (by omega), u64_in (by omega) (by omega)]
  have b : ∀ x : Int, x = 90 ∨ x = 79 ∨ x = 69 ∨ x = 49 → byt 1 x = [x] := by
    intro x hx
    simp only [byt, u8_mod]
    rw [show x % 256 = x by omega]
  have hs : ∀ (k : Nat) (r : List (List Ct)), k < 4 → r.length ≤ 100 + 1 * k → ∃ r', jen_L0_step ((k : Int), r) = some (.inl (((k + 1 : Nat) : Int), r')) ∧ r'.length ≤ r.length + 1 ∧ col r' = col r ++ [bM.getD k 0] := by
    intro k r hk hr
    have c : k = 0 ∨ k = 1 ∨ k = 2 ∨ k = 3 := by omega
    have q1 : (k : Int) < ((([[Ct.i (90 : Int)], [Ct.i (79 : Int)], [Ct.i (69 : Int)], [Ct.i (49 : Int)]] : List (List Ct)).length : Nat) : Int) := by simp only [List.length_cons, List.length_nil]; omega
    have q2 : (0 : Int) ≤ (k : Int) ∧ (k : Int) < ((([[Ct.i (90 : Int)], [Ct.i (79 : Int)], [Ct.i (69 : Int)], [Ct.i (49 : Int)]] : List (List Ct)).length : Nat) : Int) := ⟨by omega, q1⟩
    have hx : (rd [[Ct.i (90 : Int)], [Ct.i (79 : Int)], [Ct.i (69 : Int)], [Ct.i (49 : Int)]] k 0).int = bM.getD k 0 ∧ (bM.getD k 0 = 90 ∨ bM.getD k 0 = 79 ∨ bM.getD k 0 = 69 ∨ bM.getD k 0 = 49) := by
      rcases c with rfl | rfl | rfl | rfl
      · exact ⟨rfl, .inl rfl⟩
      · exact ⟨rfl, .inr (.inl rfl)⟩
      · exact ⟨rfl, .inr (.inr (.inl rfl))⟩
      · exact ⟨rfl, .inr (.inr (.inr rfl))⟩
    obtain ⟨g1, g2, g3⟩ := wra_okN (r := r) (x := bM.getD k 0) (N := 1) 1 rfl (by omega)
    rw [b _ hx.2] at g3
    simp only [jen_L0_step, cond_dec q1, cond_dec q2, Int.toNat_natCast, wrap_succ (k := k) (by omega), jen_c16996665, jen_c26850424, jen_c30758155, jen_c31285723, jen_c31836351, jen_c36123827, jen_c4465969, jen_c57522926, jen_c58812669, jen_c70406446, jen_c75200517, jen_c85997692, jen_c86934521, jen_c87571451, jen_c89188172, jen_c93365016, jen_c97500519, hx.1, e _ hx.2, g1, cond_true]
    exact ⟨_, rfl, by omega, g3⟩
  obtain ⟨r', h1, h2, h3⟩ := w_loop (step := jen_L0_step) (n := 4) (fun k => [bM.getD k 0]) 1 100 hs (fun r => by
    have q : ¬ (((4 : Nat) : Int) < ((([[Ct.i (90 : Int)], [Ct.i (79 : Int)], [Ct.i (69 : Int)], [Ct.i (49 : Int)]] : List (List Ct)).length : Nat) : Int)) := by simp only [List.length_cons, List.length_nil]; omega
    simp only [jen_L0_step, cond_not q]) (fuel := 5) (by omega) (r0 := []) (by simp)
  obtain ⟨p1, v1⟩ := len_loop h1
  have e2 : jen_L0_v.2 = r' := v1
  have hc : col r' = bM := h3
  refine ⟨p1, ?_, by rw [e2]; exact hc⟩
  rw [e2, ← col_length, hc]; rfl

theorem jen_ok {x0 x1 x2 x3 x4 x5 x6 x7 x8 x9 x10 x11 x12 : Int} {P T J S : List (List Ct)} (hP : P.length ≤ 1000) (hT : T.length ≤ 60) (hK : ∀ k, k < T.length → (rd T k 1).rows.length ≤ 1000) (hJ : J.length ≤ 1000) (hS : S.length ≤ 1000)
    (hc : (sch_res x0 x1 x2 x3 x4 x5 x7 x8 x9 x10 x11 x12 P T J S).isSome = true) (h0 : (sch_v x0 x1 x2 x3 x4 x5 x7 x8 x9 x10 x11 x12 P T J S).1 = 0) :
    ∃ u, jen_res x0 x1 x2 x3 x4 x5 x6 x7 x8 x9 x10 x11 x12 P T J S = some u ∧ (u.1 = 0 ∧ col u.2 = bScene x0 x1 x2 x3 x4 x5 x6 x7 x8 x9 x10 x11 x12 P T J S ∧ u.2.length ≤ 3000000) := by
  have hb : ((sch_v x0 x1 x2 x3 x4 x5 x7 x8 x9 x10 x11 x12 P T J S).1 != 0) = false := by rw [h0]; rfl
  obtain ⟨m1, m2, m3⟩ := jen_L0_is
  obtain ⟨w1, w2, w3⟩ := @whd_ok jen_L0_v.2 x0 x1 x2 x3 x4 x5 x6 x7 x8 x9 x10 x11 x12 (by omega)
  unfold jen_res
  rw [hc, cond_true, hb, cond_false, cond_true, m1, cond_true, w1, cond_true]
  simp only [jen_c16996665, jen_c26850424, jen_c30758155, jen_c31285723, jen_c31836351, jen_c36123827, jen_c4465969, jen_c57522926, jen_c58812669, jen_c70406446, jen_c75200517, jen_c85997692, jen_c86934521, jen_c87571451, jen_c89188172, jen_c93365016, jen_c97500519]
  refine w_bind 1 (by rfl) (by omega) fun l0 k0 => ?_
  refine w_bind 1 (by rfl) (by omega) fun l1 k1 => ?_
  refine w_bind 1 (by rfl) (by omega) fun l2 k2 => ?_
  refine w_bind 1 (by rfl) (by omega) fun l3 k3 => ?_
  have lH : (jen_c30758155 x0 x1 x2 x3 x4 x5 x6 x7 x8 x9 x10 x11 x12 P T J S).length = 55 := by
    simp only [jen_c16996665, jen_c26850424, jen_c30758155, jen_c31285723, jen_c31836351, jen_c36123827, jen_c4465969, jen_c57522926, jen_c58812669, jen_c70406446, jen_c75200517, jen_c85997692, jen_c86934521, jen_c87571451, jen_c89188172, jen_c93365016, jen_c97500519]; omega
  have kH : col (jen_c30758155 x0 x1 x2 x3 x4 x5 x6 x7 x8 x9 x10 x11 x12 P T J S) = bM ++ (bH x0 x1 x2 x3 x4 x5 x6 x7 x8 x9 x10 x11 x12 ++ bN P T J S) := by
    simp only [jen_c16996665, jen_c26850424, jen_c30758155, jen_c31285723, jen_c31836351, jen_c36123827, jen_c4465969, jen_c57522926, jen_c58812669, jen_c70406446, jen_c75200517, jen_c85997692, jen_c86934521, jen_c87571451, jen_c89188172, jen_c93365016, jen_c97500519]
    rw [k3, k2, k1, k0, w3, m3]
    simp only [bN, bw, List.append_assoc]
  obtain ⟨r1, f1, f2, f3⟩ := jen_L2_it (P := P) (by omega) (R0 := jen_c30758155 x0 x1 x2 x3 x4 x5 x6 x7 x8 x9 x10 x11 x12 P T J S) (by omega)
  obtain ⟨p1, v1⟩ := len_loop f1
  have e1 : jen_L2_p x0 x1 x2 x3 x4 x5 x6 x7 x8 x9 x10 x11 x12 P T J S = true := p1
  have w1 : (jen_L2_v x0 x1 x2 x3 x4 x5 x6 x7 x8 x9 x10 x11 x12 P T J S).2 = r1 := v1
  obtain ⟨r2, f4, f5, f6⟩ := jen_L4_it hT hK (R0 := r1) (by omega)
  obtain ⟨p2, v2⟩ := len_loop f4
  have e2 : jen_L4_p x0 x1 x2 x3 x4 x5 x6 x7 x8 x9 x10 x11 x12 P T J S = true := by unfold jen_L4_p; rw [w1]; exact p2
  have w2 : (jen_L4_v x0 x1 x2 x3 x4 x5 x6 x7 x8 x9 x10 x11 x12 P T J S).2 = r2 := by unfold jen_L4_v loopRes; rw [w1]; exact v2
  have h20 : 20002 * T.length ≤ 20002 * 60 := Nat.mul_le_mul_left _ (by omega)
  obtain ⟨r3, f7, f8, f9⟩ := jen_L6_it (J := J) (by omega) (R0 := r2) (by omega)
  obtain ⟨p3, v3⟩ := len_loop f7
  have e3 : jen_L6_p x0 x1 x2 x3 x4 x5 x6 x7 x8 x9 x10 x11 x12 P T J S = true := by unfold jen_L6_p; rw [w2]; exact p3
  have w3 : (jen_L6_v x0 x1 x2 x3 x4 x5 x6 x7 x8 x9 x10 x11 x12 P T J S).2 = r3 := by unfold jen_L6_v loopRes; rw [w2]; exact v3
  obtain ⟨r4, f10, f11, f12⟩ := jen_L8_it (S := S) (by omega) (R0 := r3) (by omega)
  obtain ⟨p4, v4⟩ := len_loop f10
  have e4 : jen_L8_p x0 x1 x2 x3 x4 x5 x6 x7 x8 x9 x10 x11 x12 P T J S = true := by unfold jen_L8_p; rw [w3]; exact p4
  have w4 : (jen_L8_v x0 x1 x2 x3 x4 x5 x6 x7 x8 x9 x10 x11 x12 P T J S).2 = r4 := by unfold jen_L8_v loopRes; rw [w3]; exact v4
  rw [e1, e2, e3, e4, w4]
  refine bind_dec (by omega) ⟨_, rfl, rfl, ?_, by show ([] ++ r4).length ≤ 3000000; rw [List.nil_append]; omega⟩
  show col ([] ++ r4) = _
  rw [List.nil_append, f12, f9, f6, f3, kH]
  simp only [bScene, List.append_assoc]
end Go.Proofs.Ytcpbiijegbbafaa
