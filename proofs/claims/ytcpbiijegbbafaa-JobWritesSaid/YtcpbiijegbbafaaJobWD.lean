/- What the document lays, in plain numbers. No condition. -/
import Derived.Test.YtcpbiijegbbafaaEngJob6
import Derived.Test.YtcpbiijegbbafaaJobW
set_option linter.unusedVariables false
set_option linter.unusedSimpArgs false
namespace Go.Proofs.Ytcpbiijegbbafaa
open Go.RowKit


theorem ren_L0_it {P : List (List Ct)} (hl : P.length ≤ 1048576) {R0 : List (List Ct)} (h0 : R0.length ≤ 100000000) : ∃ r', iter (ren_L0_step P) (P.length + 1) (0, R0) = some ((P.length : Int), r') ∧ r'.length ≤ R0.length + 21 * P.length ∧ col r' = col R0 ++ catF (bP P) P.length := by
  refine w_loop (step := ren_L0_step P) (bP P) 21 100000000 (fun k r hk hr => ?_) (fun r => ?_) (by omega) h0
  · obtain ⟨q1, q2⟩ := idx_ok hk
    simp only [ren_L0_step, cond_dec q1, cond_dec q2, Int.toNat_natCast, wrap_succ (k := k) (by omega), ren_c10328983, ren_c14975877, ren_c1818774, ren_c25400800, ren_c26089996, ren_c3243782, ren_c34913961, ren_c34965591, ren_c36156990, ren_c37836147, ren_c40089354, ren_c48553594, ren_c49919705, ren_c60992869, ren_c63600782, ren_c67490481, ren_c71762721, ren_c72782391, ren_c81981869, ren_c86828352, ren_c87841113, ren_c8954883, ren_c92979997, ren_c93667722, ren_c97471784, ren_c99048415, ren_c99218564]
    refine step_of ?_
    refine n_bind 1 (by rfl) (u64_range _) (by omega) fun l0 k0 => ?_
    refine v_bind (by omega) fun l1 k1 => ?_
    refine n_bind 5 (by rfl) (u64_range _) (by omega) fun l2 k2 => ?_
    refine ⟨_, rfl, _, rfl, by omega, ?_⟩
    rw [k2, k1, k0]
    simp only [bP, bw, b3, List.append_assoc]
  · have q : ¬ ((P.length : Int) < (P.length : Int)) := by omega
    simp only [ren_L0_step, cond_not q]

theorem ren_L6_it {J : List (List Ct)} (hl : J.length ≤ 1048576) {R0 : List (List Ct)} (h0 : R0.length ≤ 300000000) : ∃ r', iter (ren_L6_step J) (J.length + 1) (0, R0) = some ((J.length : Int), r') ∧ r'.length ≤ R0.length + 11 * J.length ∧ col r' = col R0 ++ catF (bJ J) J.length := by
  refine w_loop (step := ren_L6_step J) (bJ J) 11 300000000 (fun k r hk hr => ?_) (fun r => ?_) (by omega) h0
  · obtain ⟨q1, q2⟩ := idx_ok hk
    simp only [ren_L6_step, cond_dec q1, cond_dec q2, Int.toNat_natCast, wrap_succ (k := k) (by omega), ren_c10328983, ren_c14975877, ren_c1818774, ren_c25400800, ren_c26089996, ren_c3243782, ren_c34913961, ren_c34965591, ren_c36156990, ren_c37836147, ren_c40089354, ren_c48553594, ren_c49919705, ren_c60992869, ren_c63600782, ren_c67490481, ren_c71762721, ren_c72782391, ren_c81981869, ren_c86828352, ren_c87841113, ren_c8954883, ren_c92979997, ren_c93667722, ren_c97471784, ren_c99048415, ren_c99218564]
    refine step_of ?_
    refine n_bind 2 (by rfl) (u64_range _) (by omega) fun l0 k0 => ?_
    refine n_bind 2 (by rfl) (u64_range _) (by omega) fun l1 k1 => ?_
    refine n_bind 2 (by rfl) (u64_range _) (by omega) fun l2 k2 => ?_
    refine n_bind 5 (by rfl) (u64_range _) (by omega) fun l3 k3 => ?_
    refine ⟨_, rfl, _, rfl, by omega, ?_⟩
    rw [k3, k2, k1, k0]
    simp only [bJ, bw, b3, List.append_assoc]
  · have q : ¬ ((J.length : Int) < (J.length : Int)) := by omega
    simp only [ren_L6_step, cond_not q]

theorem ren_L8_it {S : List (List Ct)} (hl : S.length ≤ 1048576) {R0 : List (List Ct)} (h0 : R0.length ≤ 400000000) : ∃ r', iter (ren_L8_step S) (S.length + 1) (0, R0) = some ((S.length : Int), r') ∧ r'.length ≤ R0.length + 50 * S.length ∧ col r' = col R0 ++ catF (bS S) S.length := by
  refine w_loop (step := ren_L8_step S) (bS S) 50 400000000 (fun k r hk hr => ?_) (fun r => ?_) (by omega) h0
  · obtain ⟨q1, q2⟩ := idx_ok hk
    by_cases hz : (rd S k 2).int = 0
    · have hb : ((rd S k 2).int == 0) = true := by simpa using hz
      simp only [ren_L8_step, cond_dec q1, cond_dec q2, Int.toNat_natCast, wrap_succ (k := k) (by omega), hb, cond_true, ren_c10328983, ren_c14975877, ren_c1818774, ren_c25400800, ren_c26089996, ren_c3243782, ren_c34913961, ren_c34965591, ren_c36156990, ren_c37836147, ren_c40089354, ren_c48553594, ren_c49919705, ren_c60992869, ren_c63600782, ren_c67490481, ren_c71762721, ren_c72782391, ren_c81981869, ren_c86828352, ren_c87841113, ren_c8954883, ren_c92979997, ren_c93667722, ren_c97471784, ren_c99048415, ren_c99218564]
      refine step_of ?_
      refine n_bind 2 (by rfl) (u64_range _) (by omega) fun l0 k0 => ?_
      refine n_bind 2 (by rfl) (u64_range _) (by omega) fun l1 k1 => ?_
      refine n_bind 1 (by rfl) (u64_range _) (by omega) fun l2 k2 => ?_
      refine v_bind (by omega) fun l3 k3 => ?_
      refine n_bind 5 (by rfl) (u64_range _) (by omega) fun l4 k4 => ?_
      refine ⟨_, rfl, _, rfl, by omega, ?_⟩
      rw [k4, k3, k2, k1, k0]
      simp only [bS, bS13, if_pos hz, bw, b3, List.append_assoc]
    · have hb : ((rd S k 2).int == 0) = false := by simpa using hz
      simp only [ren_L8_step, cond_dec q1, cond_dec q2, Int.toNat_natCast, wrap_succ (k := k) (by omega), hb, cond_false, ren_c10328983, ren_c14975877, ren_c1818774, ren_c25400800, ren_c26089996, ren_c3243782, ren_c34913961, ren_c34965591, ren_c36156990, ren_c37836147, ren_c40089354, ren_c48553594, ren_c49919705, ren_c60992869, ren_c63600782, ren_c67490481, ren_c71762721, ren_c72782391, ren_c81981869, ren_c86828352, ren_c87841113, ren_c8954883, ren_c92979997, ren_c93667722, ren_c97471784, ren_c99048415, ren_c99218564]
      refine step_of ?_
      refine n_bind 2 (by rfl) (u64_range _) (by omega) fun l0 k0 => ?_
      refine n_bind 2 (by rfl) (u64_range _) (by omega) fun l1 k1 => ?_
      refine n_bind 1 (by rfl) (u64_range _) (by omega) fun l2 k2 => ?_
      refine v_bind (by omega) fun l3 k3 => ?_
      refine v_bind (by omega) fun l4 k4 => ?_
      refine v_bind (by omega) fun l5 k5 => ?_
      refine ⟨_, rfl, _, rfl, by omega, ?_⟩
      rw [k5, k4, k3, k2, k1, k0]
      simp only [bS, bS13, if_neg hz, bw, b3, List.append_assoc]
  · have q : ¬ ((S.length : Int) < (S.length : Int)) := by omega
    simp only [ren_L8_step, cond_not q]

theorem ren_L4_it {T : List (List Ct)} {t : Nat} (hl : (rd T t 1).rows.length ≤ 1048576) {R0 : List (List Ct)} (h0 : R0.length ≤ 600000000) : ∃ r', iter (ren_L4_step T (t : Int)) ((rd T t 1).rows.length + 1) (0, R0) = some (((rd T t 1).rows.length : Int), r') ∧ r'.length ≤ R0.length + 20 * (rd T t 1).rows.length ∧ col r' = col R0 ++ catF (bK (rd T t 1).rows) (rd T t 1).rows.length := by
  refine w_loop (step := ren_L4_step T (t : Int)) (bK (rd T t 1).rows) 20 600000000 (fun k r hk hr => ?_) (fun r => ?_) (by omega) h0
  · obtain ⟨q1, q2⟩ := idx_ok hk
    simp only [ren_L4_step, cond_dec q1, cond_dec q2, Int.toNat_natCast, wrap_succ (k := k) (by omega), ren_c10328983, ren_c14975877, ren_c1818774, ren_c25400800, ren_c26089996, ren_c3243782, ren_c34913961, ren_c34965591, ren_c36156990, ren_c37836147, ren_c40089354, ren_c48553594, ren_c49919705, ren_c60992869, ren_c63600782, ren_c67490481, ren_c71762721, ren_c72782391, ren_c81981869, ren_c86828352, ren_c87841113, ren_c8954883, ren_c92979997, ren_c93667722, ren_c97471784, ren_c99048415, ren_c99218564]
    refine step_of ?_
    refine n_bind 5 (by rfl) (u64_range _) (by omega) fun l0 k0 => ?_
    refine v_bind (by omega) fun l1 k1 => ?_
    refine ⟨_, rfl, _, rfl, by omega, ?_⟩
    rw [k1, k0]
    simp only [bK, bw, b3, List.append_assoc]
  · have q : ¬ (((rd T t 1).rows.length : Int) < ((rd T t 1).rows.length : Int)) := by omega
    simp only [ren_L4_step, Int.toNat_natCast, cond_not q]
theorem ren_L2_it {T : List (List Ct)} (hl : T.length ≤ 60) (hk : ∀ k, k < T.length → (rd T k 1).rows.length ≤ 1000) {R0 : List (List Ct)} (h0 : R0.length ≤ 1000000) : ∃ r', iter (ren_L2_step T) (T.length + 1) (0, R0) = some ((T.length : Int), r') ∧ r'.length ≤ R0.length + 20002 * T.length ∧ col r' = col R0 ++ catF (bT T) T.length := by
  refine w_loop (step := ren_L2_step T) (bT T) 20002 1000000 (fun k r hk' hr => ?_) (fun r => ?_) (by omega) h0
  · obtain ⟨q1, q2⟩ := idx_ok hk'
    have h4 : 20002 * k ≤ 20002 * 60 := Nat.mul_le_mul_left _ (by omega)
    have := hk k hk'
    obtain ⟨r', g1, g2, g3⟩ := ren_L4_it (T := T) (t := k) (by omega) (R0 := r ++ [[Ct.i (IntKind.u8.wrap (rd T k 0).int)], [Ct.i (IntKind.u8.wrap ((rd T k 1).rows.length : Int))]]) (by simp only [List.length_append, List.length_cons, List.length_nil]; omega)
    obtain ⟨p1, p2⟩ := len_loop g1
    have e1 : ren_L4_p T (k : Int) r = true := by simp only [ren_L4_p, Int.toNat_natCast]; exact p1
    have e2 : (ren_L4_v T (k : Int) r).2 = r' := by simp only [ren_L4_v, loopRes, Int.toNat_natCast]; exact p2
    refine ⟨r', ?_, by rw [List.length_append, List.length_cons, List.length_cons, List.length_nil] at g2; omega, ?_⟩
    · simp only [ren_L2_step, cond_dec q1, cond_dec q2, Int.toNat_natCast, wrap_succ (k := k) (by omega), e1, e2, cond_true]
      exact ob_step (by simp only [List.length_cons, List.length_nil]; omega) rfl
    · rw [g3, col_app, col_cons, col_cons, col_nil]
      simp only [bT, bw_one, Ct.int, List.append_assoc, List.cons_append, List.nil_append]
  · have q : ¬ ((T.length : Int) < (T.length : Int)) := by omega
    simp only [ren_L2_step, cond_not q]

theorem ren_ok {x0 x1 x2 x3 x4 x5 x6 x7 x8 x9 x10 x11 x12 : Int} {P T J S : List (List Ct)} (h6 : 0 ≤ x6 ∧ x6 < 18446744073709551616) (hP : P.length ≤ 1000) (hT : T.length ≤ 60) (hK : ∀ k, k < T.length → (rd T k 1).rows.length ≤ 1000) (hJ : J.length ≤ 1000) (hS : S.length ≤ 1000)
    (hc : (rch_res x0 x1 x2 x3 x4 x5 x7 x8 x9 x10 x11 x12 P T J S).isSome = true) (h0 : (rch_v x0 x1 x2 x3 x4 x5 x7 x8 x9 x10 x11 x12 P T J S).1 = 0) :
    ∃ u, ren_res x0 x1 x2 x3 x4 x5 x6 x7 x8 x9 x10 x11 x12 P T J S = some u ∧ (u.1 = 0 ∧ col u.2 = bScene x0 x1 x2 x3 x4 x5 x6 x7 x8 x9 x10 x11 x12 P T J S ∧ u.2.length ≤ 3000000) := by
  have hb : ((rch_v x0 x1 x2 x3 x4 x5 x7 x8 x9 x10 x11 x12 P T J S).1 != 0) = false := by rw [h0]; rfl
  unfold ren_res
  rw [hc, cond_true, hb, cond_false]
  simp only [ren_c10328983, ren_c14975877, ren_c1818774, ren_c25400800, ren_c26089996, ren_c3243782, ren_c34913961, ren_c34965591, ren_c36156990, ren_c37836147, ren_c40089354, ren_c48553594, ren_c49919705, ren_c60992869, ren_c63600782, ren_c67490481, ren_c71762721, ren_c72782391, ren_c81981869, ren_c86828352, ren_c87841113, ren_c8954883, ren_c92979997, ren_c93667722, ren_c97471784, ren_c99048415, ren_c99218564]
  refine n_bind 2 (by rfl) (u64_range _) (by simp only [List.length_cons, List.length_nil] at *; omega) fun l0 k0 => ?_
  refine n_bind 2 (by rfl) (u64_range _) (by simp only [List.length_cons, List.length_nil] at *; omega) fun l1 k1 => ?_
  refine n_bind 2 (by rfl) (u64_range _) (by simp only [List.length_cons, List.length_nil] at *; omega) fun l2 k2 => ?_
  refine n_bind 2 (by rfl) (u64_range _) (by simp only [List.length_cons, List.length_nil] at *; omega) fun l3 k3 => ?_
  refine n_bind 2 (by rfl) (u64_range _) (by simp only [List.length_cons, List.length_nil] at *; omega) fun l4 k4 => ?_
  refine n_bind 5 (by rfl) (u64_range _) (by simp only [List.length_cons, List.length_nil] at *; omega) fun l5 k5 => ?_
  refine n_bind 8 (by rfl) (h6) (by simp only [List.length_cons, List.length_nil] at *; omega) fun l6 k6 => ?_
  refine v_bind (by simp only [List.length_cons, List.length_nil] at *; omega) fun l7 k7 => ?_
  refine n_bind 2 (by rfl) (u64_range _) (by simp only [List.length_cons, List.length_nil] at *; omega) fun l8 k8 => ?_
  refine n_bind 2 (by rfl) (u64_range _) (by simp only [List.length_cons, List.length_nil] at *; omega) fun l9 k9 => ?_
  refine n_bind 5 (by rfl) (u64_range _) (by simp only [List.length_cons, List.length_nil] at *; omega) fun l10 k10 => ?_
  refine bind_dec (by simp only [List.length_cons, List.length_nil] at *; omega) ?_
  have lH : (ren_c34965591 x0 x1 x2 x3 x4 x5 x6 x7 x8 x9 x10 x11 x12).length = 51 := by
    simp only [ren_c10328983, ren_c14975877, ren_c1818774, ren_c25400800, ren_c26089996, ren_c3243782, ren_c34913961, ren_c34965591, ren_c36156990, ren_c37836147, ren_c40089354, ren_c48553594, ren_c49919705, ren_c60992869, ren_c63600782, ren_c67490481, ren_c71762721, ren_c72782391, ren_c81981869, ren_c86828352, ren_c87841113, ren_c8954883, ren_c92979997, ren_c93667722, ren_c97471784, ren_c99048415, ren_c99218564]; simp only [List.length_cons, List.length_nil] at *; omega
  have kH : col (ren_c34965591 x0 x1 x2 x3 x4 x5 x6 x7 x8 x9 x10 x11 x12) = bM ++ bH x0 x1 x2 x3 x4 x5 x6 x7 x8 x9 x10 x11 x12 := by
    simp only [ren_c10328983, ren_c14975877, ren_c1818774, ren_c25400800, ren_c26089996, ren_c3243782, ren_c34913961, ren_c34965591, ren_c36156990, ren_c37836147, ren_c40089354, ren_c48553594, ren_c49919705, ren_c60992869, ren_c63600782, ren_c67490481, ren_c71762721, ren_c72782391, ren_c81981869, ren_c86828352, ren_c87841113, ren_c8954883, ren_c92979997, ren_c93667722, ren_c97471784, ren_c99048415, ren_c99218564]
    rw [k10, k9, k8, k7, k6, k5, k4, k3, k2, k1, k0]
    simp only [col_cons, col_nil, Ct.int, bM, bH, bw, b3, List.append_assoc, List.cons_append, List.nil_append]
  obtain ⟨r1, f1, f2, f3⟩ := ren_L0_it (P := P) (by omega) (R0 := ren_c34965591 x0 x1 x2 x3 x4 x5 x6 x7 x8 x9 x10 x11 x12 ++ [[Ct.i (IntKind.u8.wrap (P.length : Int))], [Ct.i (IntKind.u8.wrap (T.length : Int))], [Ct.i (IntKind.u8.wrap (J.length : Int))], [Ct.i (IntKind.u8.wrap (S.length : Int))]]) (by simp only [List.length_append, lH, List.length_cons, List.length_nil]; omega)
  obtain ⟨p1, v1⟩ := len_loop f1
  have e1 : ren_L0_p x0 x1 x2 x3 x4 x5 x6 x7 x8 x9 x10 x11 x12 P T J S = true := p1
  have w1 : (ren_L0_v x0 x1 x2 x3 x4 x5 x6 x7 x8 x9 x10 x11 x12 P T J S).2 = r1 := v1
  simp only [List.length_append, lH, List.length_cons, List.length_nil] at f2
  obtain ⟨r2, f4, f5, f6⟩ := ren_L2_it hT hK (R0 := r1) (by omega)
  obtain ⟨p2, v2⟩ := len_loop f4
  have e2 : ren_L2_p x0 x1 x2 x3 x4 x5 x6 x7 x8 x9 x10 x11 x12 P T J S = true := by unfold ren_L2_p; rw [w1]; exact p2
  have w2 : (ren_L2_v x0 x1 x2 x3 x4 x5 x6 x7 x8 x9 x10 x11 x12 P T J S).2 = r2 := by unfold ren_L2_v loopRes; rw [w1]; exact v2
  have h20 : 20002 * T.length ≤ 20002 * 60 := Nat.mul_le_mul_left _ (by omega)
  obtain ⟨r3, f7, f8, f9⟩ := ren_L6_it (J := J) (by omega) (R0 := r2) (by omega)
  obtain ⟨p3, v3⟩ := len_loop f7
  have e3 : ren_L6_p x0 x1 x2 x3 x4 x5 x6 x7 x8 x9 x10 x11 x12 P T J S = true := by unfold ren_L6_p; rw [w2]; exact p3
  have w3 : (ren_L6_v x0 x1 x2 x3 x4 x5 x6 x7 x8 x9 x10 x11 x12 P T J S).2 = r3 := by unfold ren_L6_v loopRes; rw [w2]; exact v3
  obtain ⟨r4, f10, f11, f12⟩ := ren_L8_it (S := S) (by omega) (R0 := r3) (by omega)
  obtain ⟨p4, v4⟩ := len_loop f10
  have e4 : ren_L8_p x0 x1 x2 x3 x4 x5 x6 x7 x8 x9 x10 x11 x12 P T J S = true := by unfold ren_L8_p; rw [w3]; exact p4
  have w4 : (ren_L8_v x0 x1 x2 x3 x4 x5 x6 x7 x8 x9 x10 x11 x12 P T J S).2 = r4 := by unfold ren_L8_v loopRes; rw [w3]; exact v4
  rw [e1, e2, e3, e4, w4]
  refine ⟨_, rfl, rfl, ?_, by show r4.length ≤ 3000000; omega⟩
  show col r4 = _
  rw [f12, f9, f6, f3, col_app, kH, col_cons, col_cons, col_cons, col_cons, col_nil]
  simp only [bScene, bN, bw_one, Ct.int, List.append_assoc, List.cons_append, List.nil_append]
end Go.Proofs.Ytcpbiijegbbafaa
