/- One value, laid by the program and by the document. No condition. -/
import Derived.Test.YtidhjgcegcfmeaaEngReelV
import Derived.Test.YtidhjgcegcfmeaaCol
set_option linter.unusedVariables false
set_option linter.unusedSimpArgs false
namespace Go.Proofs.Ytidhjgcegcfmeaa
open Go.RowKit

theorem ob_step {α : Type} {c : Prop} [Decidable c] {a b : Option α} {r : Option α} (h : c) (h2 : a = r) : (bif decide c then a else b) = r := by rw [decide_eq_true h]; exact h2
theorem u64_range (x : Int) : 0 ≤ IntKind.u64.wrap x ∧ IntKind.u64.wrap x < 18446744073709551616 := by
  simp [IntKind.wrap, IntKind.bits, IntKind.signed]; omega
theorem u64_in {x : Int} (h0 : 0 ≤ x) (h1 : x < 18446744073709551616) : IntKind.u64.wrap x = x := by
  simp [IntKind.wrap, IntKind.bits, IntKind.signed]; omega
theorem num1 {d : Int} (h0 : 0 ≤ d) (h1 : d < 18446744073709551616) : ∃ d', d.fdiv ((2 : Int) ^ min (Int.toNat (8 : Int)) IntKind.u64.bits) = d' ∧ IntKind.u64.wrap (d.tdiv (256 : Int)) = d' ∧ IntKind.u8.wrap (d.tmod (256 : Int)) = IntKind.u8.wrap d ∧ 0 ≤ d' ∧ d' < 18446744073709551616 := by
  refine ⟨d / 256, ?_, ?_, ?_, by omega, by omega⟩
  · rw [show (2 : Int) ^ min (Int.toNat (8 : Int)) IntKind.u64.bits = 256 from rfl, Int.fdiv_eq_ediv_of_nonneg _ (by omega)]
  · rw [Int.tdiv_eq_ediv_of_nonneg h0, u64_in (by omega) (by omega)]
  · rw [Int.tmod_eq_emod_of_nonneg h0]
    simp [IntKind.wrap, IntKind.bits, IntKind.signed]
/-- A number's bytes, as both take them off. -/
theorem nums (x : Int) : ∃ d0 d1 d2 d3 d4 d5 d6 d7 d8 : Int, IntKind.u64.wrap x = d0 ∧
    d0.fdiv ((2 : Int) ^ min (Int.toNat (8 : Int)) IntKind.u64.bits) = d1 ∧ IntKind.u64.wrap (d0.tdiv (256 : Int)) = d1 ∧ IntKind.u8.wrap (d0.tmod (256 : Int)) = IntKind.u8.wrap d0 ∧
    d1.fdiv ((2 : Int) ^ min (Int.toNat (8 : Int)) IntKind.u64.bits) = d2 ∧ IntKind.u64.wrap (d1.tdiv (256 : Int)) = d2 ∧ IntKind.u8.wrap (d1.tmod (256 : Int)) = IntKind.u8.wrap d1 ∧
    d2.fdiv ((2 : Int) ^ min (Int.toNat (8 : Int)) IntKind.u64.bits) = d3 ∧ IntKind.u64.wrap (d2.tdiv (256 : Int)) = d3 ∧ IntKind.u8.wrap (d2.tmod (256 : Int)) = IntKind.u8.wrap d2 ∧
    d3.fdiv ((2 : Int) ^ min (Int.toNat (8 : Int)) IntKind.u64.bits) = d4 ∧ IntKind.u64.wrap (d3.tdiv (256 : Int)) = d4 ∧ IntKind.u8.wrap (d3.tmod (256 : Int)) = IntKind.u8.wrap d3 ∧
    d4.fdiv ((2 : Int) ^ min (Int.toNat (8 : Int)) IntKind.u64.bits) = d5 ∧ IntKind.u64.wrap (d4.tdiv (256 : Int)) = d5 ∧ IntKind.u8.wrap (d4.tmod (256 : Int)) = IntKind.u8.wrap d4 ∧
    d5.fdiv ((2 : Int) ^ min (Int.toNat (8 : Int)) IntKind.u64.bits) = d6 ∧ IntKind.u64.wrap (d5.tdiv (256 : Int)) = d6 ∧ IntKind.u8.wrap (d5.tmod (256 : Int)) = IntKind.u8.wrap d5 ∧
    d6.fdiv ((2 : Int) ^ min (Int.toNat (8 : Int)) IntKind.u64.bits) = d7 ∧ IntKind.u64.wrap (d6.tdiv (256 : Int)) = d7 ∧ IntKind.u8.wrap (d6.tmod (256 : Int)) = IntKind.u8.wrap d6 ∧
    d7.fdiv ((2 : Int) ^ min (Int.toNat (8 : Int)) IntKind.u64.bits) = d8 ∧ IntKind.u64.wrap (d7.tdiv (256 : Int)) = d8 ∧ IntKind.u8.wrap (d7.tmod (256 : Int)) = IntKind.u8.wrap d7 := by
  obtain ⟨r0, r1⟩ := u64_range x
  obtain ⟨d1, p0, q0, b0, l1, g1⟩ := num1 r0 r1
  obtain ⟨d2, p1, q1, b1, l2, g2⟩ := num1 l1 g1
  obtain ⟨d3, p2, q2, b2, l3, g3⟩ := num1 l2 g2
  obtain ⟨d4, p3, q3, b3, l4, g4⟩ := num1 l3 g3
  obtain ⟨d5, p4, q4, b4, l5, g5⟩ := num1 l4 g4
  obtain ⟨d6, p5, q5, b5, l6, g6⟩ := num1 l5 g5
  obtain ⟨d7, p6, q6, b6, l7, g7⟩ := num1 l6 g6
  obtain ⟨d8, p7, q7, b7, l8, g8⟩ := num1 l7 g7
  exact ⟨_, d1, d2, d3, d4, d5, d6, d7, d8, rfl, p0, q0, b0, p1, q1, b1, p2, q2, b2, p3, q3, b3, p4, q4, b4, p5, q5, b5, p6, q6, b6, p7, q7, b7⟩

/-- Both lay the same. -/
def Laid (o p : Option (List (List Ct))) (n : Nat) : Prop := ∃ u v, o = some u ∧ p = some v ∧ col u = col v ∧ u.length ≤ n + 3010
theorem laid_0 (wl ml : List (List Ct)) (x1_1 : Int) (x1_2 : Int) (x1_3 : Int) (x1_4 : Int) (x1_5 : Int) (x1_6 : Int) (x1_7 : Int) (x1_8 : Int) (x1_9 : Int) (x1_10 : Int) (x1_11 : Int) (x1_12 : Int) (x1_13 : Int) (x1_14 : Int) (x1_15 : Int) (x1_16 : Int) (x1_17 : Int) (x1_18 : Int) (x1_19 : Int) (x1_20 : Int) (x1_21 : Int) (x1_22 : Int) (x1_23 : Int) (x1_24 : Int) (x1_25 : Int) (x1_26 : Int) (x1_27 : Int) (x1_28 : Int) (x1_29 : Int) (x1_30 : Int) (x1_31 : Int) (x1_32 : Int) (x1_33 : Int) (x1_34 : Int) (x1_35 : Int) (x1_36 : Int) (x1_37 : List (List Ct)) (x1_38 : Int) (hc : col wl = col ml) (hl : wl.length ≤ 1000000) (hp : x1_37.length ≤ 3000) : Laid (wlay_res wl (0 : Int) x1_1 x1_2 x1_3 x1_4 x1_5 x1_6 x1_7 x1_8 x1_9 x1_10 x1_11 x1_12 x1_13 x1_14 x1_15 x1_16 x1_17 x1_18 x1_19 x1_20 x1_21 x1_22 x1_23 x1_24 x1_25 x1_26 x1_27 x1_28 x1_29 x1_30 x1_31 x1_32 x1_33 x1_34 x1_35 x1_36 x1_37 x1_38) (rlaid_res ml (0 : Int) x1_1 x1_2 x1_3 x1_4 x1_5 x1_6 x1_7 x1_8 x1_9 x1_10 x1_11 x1_12 x1_13 x1_14 x1_15 x1_16 x1_17 x1_18 x1_19 x1_20 x1_21 x1_22 x1_23 x1_24 x1_25 x1_26 x1_27 x1_28 x1_29 x1_30 x1_31 x1_32 x1_33 x1_34 x1_35 x1_36 x1_37 x1_38) wl.length := by
  have hm : ml.length = wl.length := by have := congrArg List.length hc; rw [col_length, col_length] at this; exact this.symm
  obtain ⟨da0, da1, da2, da3, da4, da5, da6, da7, da8, ea, pa0, qa0, ba0, pa1, qa1, ba1, pa2, qa2, ba2, pa3, qa3, ba3, pa4, qa4, ba4, pa5, qa5, ba5, pa6, qa6, ba6, pa7, qa7, ba7⟩ := nums x1_1
  refine Exists.intro ?u (Exists.intro ?v (And.intro ?h1 (And.intro ?h2 (And.intro ?h3 ?h4))))
  case h1 =>
    unfold wlay_res
    simp only [show ((0 : Int) == (0 : Int)) = true from rfl, show ((0 : Int) == (1 : Int)) = false from rfl, show ((0 : Int) == (2 : Int)) = false from rfl, show ((0 : Int) == (3 : Int)) = false from rfl, show ((0 : Int) == (4 : Int)) = false from rfl, show ((0 : Int) == (5 : Int)) = false from rfl, show ((0 : Int) == (6 : Int)) = false from rfl, show ((0 : Int) == (7 : Int)) = false from rfl, show ((0 : Int) == (8 : Int)) = false from rfl, cond_true, cond_false, ea, pa0, qa0, ba0]
    repeat' refine ob_step (by (try simp only [List.length_append, List.length_cons, List.length_nil]); omega) ?_
    rfl
  case h2 =>
    unfold rlaid_res
    simp only [show ((0 : Int) == (0 : Int)) = true from rfl, show ((0 : Int) == (1 : Int)) = false from rfl, show ((0 : Int) == (2 : Int)) = false from rfl, show ((0 : Int) == (3 : Int)) = false from rfl, show ((0 : Int) == (4 : Int)) = false from rfl, show ((0 : Int) == (5 : Int)) = false from rfl, show ((0 : Int) == (6 : Int)) = false from rfl, show ((0 : Int) == (7 : Int)) = false from rfl, show ((0 : Int) == (8 : Int)) = false from rfl, cond_true, cond_false, ea, pa0, qa0, ba0]
    repeat' refine ob_step (by (try simp only [List.length_append, List.length_cons, List.length_nil]); omega) ?_
    rfl
  case h3 => try simp only [col_app, col_cons, col_nil, hc, List.nil_append, List.append_assoc, List.append_nil]
  case h4 => (try simp only [List.length_append, List.length_cons, List.length_nil]); omega
theorem laid_1 (wl ml : List (List Ct)) (x1_1 : Int) (x1_2 : Int) (x1_3 : Int) (x1_4 : Int) (x1_5 : Int) (x1_6 : Int) (x1_7 : Int) (x1_8 : Int) (x1_9 : Int) (x1_10 : Int) (x1_11 : Int) (x1_12 : Int) (x1_13 : Int) (x1_14 : Int) (x1_15 : Int) (x1_16 : Int) (x1_17 : Int) (x1_18 : Int) (x1_19 : Int) (x1_20 : Int) (x1_21 : Int) (x1_22 : Int) (x1_23 : Int) (x1_24 : Int) (x1_25 : Int) (x1_26 : Int) (x1_27 : Int) (x1_28 : Int) (x1_29 : Int) (x1_30 : Int) (x1_31 : Int) (x1_32 : Int) (x1_33 : Int) (x1_34 : Int) (x1_35 : Int) (x1_36 : Int) (x1_37 : List (List Ct)) (x1_38 : Int) (hc : col wl = col ml) (hl : wl.length ≤ 1000000) (hp : x1_37.length ≤ 3000) : Laid (wlay_res wl (1 : Int) x1_1 x1_2 x1_3 x1_4 x1_5 x1_6 x1_7 x1_8 x1_9 x1_10 x1_11 x1_12 x1_13 x1_14 x1_15 x1_16 x1_17 x1_18 x1_19 x1_20 x1_21 x1_22 x1_23 x1_24 x1_25 x1_26 x1_27 x1_28 x1_29 x1_30 x1_31 x1_32 x1_33 x1_34 x1_35 x1_36 x1_37 x1_38) (rlaid_res ml (1 : Int) x1_1 x1_2 x1_3 x1_4 x1_5 x1_6 x1_7 x1_8 x1_9 x1_10 x1_11 x1_12 x1_13 x1_14 x1_15 x1_16 x1_17 x1_18 x1_19 x1_20 x1_21 x1_22 x1_23 x1_24 x1_25 x1_26 x1_27 x1_28 x1_29 x1_30 x1_31 x1_32 x1_33 x1_34 x1_35 x1_36 x1_37 x1_38) wl.length := by
  have hm : ml.length = wl.length := by have := congrArg List.length hc; rw [col_length, col_length] at this; exact this.symm
  obtain ⟨da0, da1, da2, da3, da4, da5, da6, da7, da8, ea, pa0, qa0, ba0, pa1, qa1, ba1, pa2, qa2, ba2, pa3, qa3, ba3, pa4, qa4, ba4, pa5, qa5, ba5, pa6, qa6, ba6, pa7, qa7, ba7⟩ := nums x1_1
  refine Exists.intro ?u (Exists.intro ?v (And.intro ?h1 (And.intro ?h2 (And.intro ?h3 ?h4))))
  case h1 =>
    unfold wlay_res
    simp only [show ((1 : Int) == (0 : Int)) = false from rfl, show ((1 : Int) == (1 : Int)) = true from rfl, show ((1 : Int) == (2 : Int)) = false from rfl, show ((1 : Int) == (3 : Int)) = false from rfl, show ((1 : Int) == (4 : Int)) = false from rfl, show ((1 : Int) == (5 : Int)) = false from rfl, show ((1 : Int) == (6 : Int)) = false from rfl, show ((1 : Int) == (7 : Int)) = false from rfl, show ((1 : Int) == (8 : Int)) = false from rfl, cond_true, cond_false, ea, pa0, qa0, ba0, pa1, qa1, ba1]
    repeat' refine ob_step (by (try simp only [List.length_append, List.length_cons, List.length_nil]); omega) ?_
    rfl
  case h2 =>
    unfold rlaid_res
    simp only [show ((1 : Int) == (0 : Int)) = false from rfl, show ((1 : Int) == (1 : Int)) = true from rfl, show ((1 : Int) == (2 : Int)) = false from rfl, show ((1 : Int) == (3 : Int)) = false from rfl, show ((1 : Int) == (4 : Int)) = false from rfl, show ((1 : Int) == (5 : Int)) = false from rfl, show ((1 : Int) == (6 : Int)) = false from rfl, show ((1 : Int) == (7 : Int)) = false from rfl, show ((1 : Int) == (8 : Int)) = false from rfl, cond_true, cond_false, ea, pa0, qa0, ba0, pa1, qa1, ba1]
    repeat' refine ob_step (by (try simp only [List.length_append, List.length_cons, List.length_nil]); omega) ?_
    rfl
  case h3 => try simp only [col_app, col_cons, col_nil, hc, List.nil_append, List.append_assoc, List.append_nil]
  case h4 => (try simp only [List.length_append, List.length_cons, List.length_nil]); omega
theorem laid_2 (wl ml : List (List Ct)) (x1_1 : Int) (x1_2 : Int) (x1_3 : Int) (x1_4 : Int) (x1_5 : Int) (x1_6 : Int) (x1_7 : Int) (x1_8 : Int) (x1_9 : Int) (x1_10 : Int) (x1_11 : Int) (x1_12 : Int) (x1_13 : Int) (x1_14 : Int) (x1_15 : Int) (x1_16 : Int) (x1_17 : Int) (x1_18 : Int) (x1_19 : Int) (x1_20 : Int) (x1_21 : Int) (x1_22 : Int) (x1_23 : Int) (x1_24 : Int) (x1_25 : Int) (x1_26 : Int) (x1_27 : Int) (x1_28 : Int) (x1_29 : Int) (x1_30 : Int) (x1_31 : Int) (x1_32 : Int) (x1_33 : Int) (x1_34 : Int) (x1_35 : Int) (x1_36 : Int) (x1_37 : List (List Ct)) (x1_38 : Int) (hc : col wl = col ml) (hl : wl.length ≤ 1000000) (hp : x1_37.length ≤ 3000) : Laid (wlay_res wl (2 : Int) x1_1 x1_2 x1_3 x1_4 x1_5 x1_6 x1_7 x1_8 x1_9 x1_10 x1_11 x1_12 x1_13 x1_14 x1_15 x1_16 x1_17 x1_18 x1_19 x1_20 x1_21 x1_22 x1_23 x1_24 x1_25 x1_26 x1_27 x1_28 x1_29 x1_30 x1_31 x1_32 x1_33 x1_34 x1_35 x1_36 x1_37 x1_38) (rlaid_res ml (2 : Int) x1_1 x1_2 x1_3 x1_4 x1_5 x1_6 x1_7 x1_8 x1_9 x1_10 x1_11 x1_12 x1_13 x1_14 x1_15 x1_16 x1_17 x1_18 x1_19 x1_20 x1_21 x1_22 x1_23 x1_24 x1_25 x1_26 x1_27 x1_28 x1_29 x1_30 x1_31 x1_32 x1_33 x1_34 x1_35 x1_36 x1_37 x1_38) wl.length := by
  have hm : ml.length = wl.length := by have := congrArg List.length hc; rw [col_length, col_length] at this; exact this.symm
  obtain ⟨da0, da1, da2, da3, da4, da5, da6, da7, da8, ea, pa0, qa0, ba0, pa1, qa1, ba1, pa2, qa2, ba2, pa3, qa3, ba3, pa4, qa4, ba4, pa5, qa5, ba5, pa6, qa6, ba6, pa7, qa7, ba7⟩ := nums x1_1
  refine Exists.intro ?u (Exists.intro ?v (And.intro ?h1 (And.intro ?h2 (And.intro ?h3 ?h4))))
  case h1 =>
    unfold wlay_res
    simp only [show ((2 : Int) == (0 : Int)) = false from rfl, show ((2 : Int) == (1 : Int)) = false from rfl, show ((2 : Int) == (2 : Int)) = true from rfl, show ((2 : Int) == (3 : Int)) = false from rfl, show ((2 : Int) == (4 : Int)) = false from rfl, show ((2 : Int) == (5 : Int)) = false from rfl, show ((2 : Int) == (6 : Int)) = false from rfl, show ((2 : Int) == (7 : Int)) = false from rfl, show ((2 : Int) == (8 : Int)) = false from rfl, cond_true, cond_false, ea, pa0, qa0, ba0, pa1, qa1, ba1, pa2, qa2, ba2, pa3, qa3, ba3]
    repeat' refine ob_step (by (try simp only [List.length_append, List.length_cons, List.length_nil]); omega) ?_
    rfl
  case h2 =>
    unfold rlaid_res
    simp only [show ((2 : Int) == (0 : Int)) = false from rfl, show ((2 : Int) == (1 : Int)) = false from rfl, show ((2 : Int) == (2 : Int)) = true from rfl, show ((2 : Int) == (3 : Int)) = false from rfl, show ((2 : Int) == (4 : Int)) = false from rfl, show ((2 : Int) == (5 : Int)) = false from rfl, show ((2 : Int) == (6 : Int)) = false from rfl, show ((2 : Int) == (7 : Int)) = false from rfl, show ((2 : Int) == (8 : Int)) = false from rfl, cond_true, cond_false, ea, pa0, qa0, ba0, pa1, qa1, ba1, pa2, qa2, ba2, pa3, qa3, ba3]
    repeat' refine ob_step (by (try simp only [List.length_append, List.length_cons, List.length_nil]); omega) ?_
    rfl
  case h3 => try simp only [col_app, col_cons, col_nil, hc, List.nil_append, List.append_assoc, List.append_nil]
  case h4 => (try simp only [List.length_append, List.length_cons, List.length_nil]); omega
theorem laid_3 (wl ml : List (List Ct)) (x1_1 : Int) (x1_2 : Int) (x1_3 : Int) (x1_4 : Int) (x1_5 : Int) (x1_6 : Int) (x1_7 : Int) (x1_8 : Int) (x1_9 : Int) (x1_10 : Int) (x1_11 : Int) (x1_12 : Int) (x1_13 : Int) (x1_14 : Int) (x1_15 : Int) (x1_16 : Int) (x1_17 : Int) (x1_18 : Int) (x1_19 : Int) (x1_20 : Int) (x1_21 : Int) (x1_22 : Int) (x1_23 : Int) (x1_24 : Int) (x1_25 : Int) (x1_26 : Int) (x1_27 : Int) (x1_28 : Int) (x1_29 : Int) (x1_30 : Int) (x1_31 : Int) (x1_32 : Int) (x1_33 : Int) (x1_34 : Int) (x1_35 : Int) (x1_36 : Int) (x1_37 : List (List Ct)) (x1_38 : Int) (hc : col wl = col ml) (hl : wl.length ≤ 1000000) (hp : x1_37.length ≤ 3000) : Laid (wlay_res wl (3 : Int) x1_1 x1_2 x1_3 x1_4 x1_5 x1_6 x1_7 x1_8 x1_9 x1_10 x1_11 x1_12 x1_13 x1_14 x1_15 x1_16 x1_17 x1_18 x1_19 x1_20 x1_21 x1_22 x1_23 x1_24 x1_25 x1_26 x1_27 x1_28 x1_29 x1_30 x1_31 x1_32 x1_33 x1_34 x1_35 x1_36 x1_37 x1_38) (rlaid_res ml (3 : Int) x1_1 x1_2 x1_3 x1_4 x1_5 x1_6 x1_7 x1_8 x1_9 x1_10 x1_11 x1_12 x1_13 x1_14 x1_15 x1_16 x1_17 x1_18 x1_19 x1_20 x1_21 x1_22 x1_23 x1_24 x1_25 x1_26 x1_27 x1_28 x1_29 x1_30 x1_31 x1_32 x1_33 x1_34 x1_35 x1_36 x1_37 x1_38) wl.length := by
  have hm : ml.length = wl.length := by have := congrArg List.length hc; rw [col_length, col_length] at this; exact this.symm
  obtain ⟨da0, da1, da2, da3, da4, da5, da6, da7, da8, ea, pa0, qa0, ba0, pa1, qa1, ba1, pa2, qa2, ba2, pa3, qa3, ba3, pa4, qa4, ba4, pa5, qa5, ba5, pa6, qa6, ba6, pa7, qa7, ba7⟩ := nums x1_1
  refine Exists.intro ?u (Exists.intro ?v (And.intro ?h1 (And.intro ?h2 (And.intro ?h3 ?h4))))
  case h1 =>
    unfold wlay_res
    simp only [show ((3 : Int) == (0 : Int)) = false from rfl, show ((3 : Int) == (1 : Int)) = false from rfl, show ((3 : Int) == (2 : Int)) = false from rfl, show ((3 : Int) == (3 : Int)) = true from rfl, show ((3 : Int) == (4 : Int)) = false from rfl, show ((3 : Int) == (5 : Int)) = false from rfl, show ((3 : Int) == (6 : Int)) = false from rfl, show ((3 : Int) == (7 : Int)) = false from rfl, show ((3 : Int) == (8 : Int)) = false from rfl, cond_true, cond_false, ea, pa0, qa0, ba0, pa1, qa1, ba1, pa2, qa2, ba2, pa3, qa3, ba3, pa4, qa4, ba4, pa5, qa5, ba5, pa6, qa6, ba6, pa7, qa7, ba7]
    repeat' refine ob_step (by (try simp only [List.length_append, List.length_cons, List.length_nil]); omega) ?_
    rfl
  case h2 =>
    unfold rlaid_res
    simp only [show ((3 : Int) == (0 : Int)) = false from rfl, show ((3 : Int) == (1 : Int)) = false from rfl, show ((3 : Int) == (2 : Int)) = false from rfl, show ((3 : Int) == (3 : Int)) = true from rfl, show ((3 : Int) == (4 : Int)) = false from rfl, show ((3 : Int) == (5 : Int)) = false from rfl, show ((3 : Int) == (6 : Int)) = false from rfl, show ((3 : Int) == (7 : Int)) = false from rfl, show ((3 : Int) == (8 : Int)) = false from rfl, cond_true, cond_false, ea, pa0, qa0, ba0, pa1, qa1, ba1, pa2, qa2, ba2, pa3, qa3, ba3, pa4, qa4, ba4, pa5, qa5, ba5, pa6, qa6, ba6, pa7, qa7, ba7]
    repeat' refine ob_step (by (try simp only [List.length_append, List.length_cons, List.length_nil]); omega) ?_
    rfl
  case h3 => try simp only [col_app, col_cons, col_nil, hc, List.nil_append, List.append_assoc, List.append_nil]
  case h4 => (try simp only [List.length_append, List.length_cons, List.length_nil]); omega
theorem laid_4 (wl ml : List (List Ct)) (x1_1 : Int) (x1_2 : Int) (x1_3 : Int) (x1_4 : Int) (x1_5 : Int) (x1_6 : Int) (x1_7 : Int) (x1_8 : Int) (x1_9 : Int) (x1_10 : Int) (x1_11 : Int) (x1_12 : Int) (x1_13 : Int) (x1_14 : Int) (x1_15 : Int) (x1_16 : Int) (x1_17 : Int) (x1_18 : Int) (x1_19 : Int) (x1_20 : Int) (x1_21 : Int) (x1_22 : Int) (x1_23 : Int) (x1_24 : Int) (x1_25 : Int) (x1_26 : Int) (x1_27 : Int) (x1_28 : Int) (x1_29 : Int) (x1_30 : Int) (x1_31 : Int) (x1_32 : Int) (x1_33 : Int) (x1_34 : Int) (x1_35 : Int) (x1_36 : Int) (x1_37 : List (List Ct)) (x1_38 : Int) (hc : col wl = col ml) (hl : wl.length ≤ 1000000) (hp : x1_37.length ≤ 3000) : Laid (wlay_res wl (4 : Int) x1_1 x1_2 x1_3 x1_4 x1_5 x1_6 x1_7 x1_8 x1_9 x1_10 x1_11 x1_12 x1_13 x1_14 x1_15 x1_16 x1_17 x1_18 x1_19 x1_20 x1_21 x1_22 x1_23 x1_24 x1_25 x1_26 x1_27 x1_28 x1_29 x1_30 x1_31 x1_32 x1_33 x1_34 x1_35 x1_36 x1_37 x1_38) (rlaid_res ml (4 : Int) x1_1 x1_2 x1_3 x1_4 x1_5 x1_6 x1_7 x1_8 x1_9 x1_10 x1_11 x1_12 x1_13 x1_14 x1_15 x1_16 x1_17 x1_18 x1_19 x1_20 x1_21 x1_22 x1_23 x1_24 x1_25 x1_26 x1_27 x1_28 x1_29 x1_30 x1_31 x1_32 x1_33 x1_34 x1_35 x1_36 x1_37 x1_38) wl.length := by
  have hm : ml.length = wl.length := by have := congrArg List.length hc; rw [col_length, col_length] at this; exact this.symm
  obtain ⟨da0, da1, da2, da3, da4, da5, da6, da7, da8, ea, pa0, qa0, ba0, pa1, qa1, ba1, pa2, qa2, ba2, pa3, qa3, ba3, pa4, qa4, ba4, pa5, qa5, ba5, pa6, qa6, ba6, pa7, qa7, ba7⟩ := nums x1_1
  refine Exists.intro ?u (Exists.intro ?v (And.intro ?h1 (And.intro ?h2 (And.intro ?h3 ?h4))))
  case h1 =>
    unfold wlay_res
    simp only [show ((4 : Int) == (0 : Int)) = false from rfl, show ((4 : Int) == (1 : Int)) = false from rfl, show ((4 : Int) == (2 : Int)) = false from rfl, show ((4 : Int) == (3 : Int)) = false from rfl, show ((4 : Int) == (4 : Int)) = true from rfl, show ((4 : Int) == (5 : Int)) = false from rfl, show ((4 : Int) == (6 : Int)) = false from rfl, show ((4 : Int) == (7 : Int)) = false from rfl, show ((4 : Int) == (8 : Int)) = false from rfl, cond_true, cond_false, ea, pa0, qa0, ba0, pa1, qa1, ba1, pa2, qa2, ba2, pa3, qa3, ba3, pa4, qa4, ba4]
    repeat' refine ob_step (by (try simp only [List.length_append, List.length_cons, List.length_nil]); omega) ?_
    rfl
  case h2 =>
    unfold rlaid_res
    simp only [show ((4 : Int) == (0 : Int)) = false from rfl, show ((4 : Int) == (1 : Int)) = false from rfl, show ((4 : Int) == (2 : Int)) = false from rfl, show ((4 : Int) == (3 : Int)) = false from rfl, show ((4 : Int) == (4 : Int)) = true from rfl, show ((4 : Int) == (5 : Int)) = false from rfl, show ((4 : Int) == (6 : Int)) = false from rfl, show ((4 : Int) == (7 : Int)) = false from rfl, show ((4 : Int) == (8 : Int)) = false from rfl, cond_true, cond_false, ea, pa0, qa0, ba0, pa1, qa1, ba1, pa2, qa2, ba2, pa3, qa3, ba3, pa4, qa4, ba4]
    repeat' refine ob_step (by (try simp only [List.length_append, List.length_cons, List.length_nil]); omega) ?_
    rfl
  case h3 => try simp only [col_app, col_cons, col_nil, hc, List.nil_append, List.append_assoc, List.append_nil]
  case h4 => (try simp only [List.length_append, List.length_cons, List.length_nil]); omega
theorem laid_5 (wl ml : List (List Ct)) (x1_1 : Int) (x1_2 : Int) (x1_3 : Int) (x1_4 : Int) (x1_5 : Int) (x1_6 : Int) (x1_7 : Int) (x1_8 : Int) (x1_9 : Int) (x1_10 : Int) (x1_11 : Int) (x1_12 : Int) (x1_13 : Int) (x1_14 : Int) (x1_15 : Int) (x1_16 : Int) (x1_17 : Int) (x1_18 : Int) (x1_19 : Int) (x1_20 : Int) (x1_21 : Int) (x1_22 : Int) (x1_23 : Int) (x1_24 : Int) (x1_25 : Int) (x1_26 : Int) (x1_27 : Int) (x1_28 : Int) (x1_29 : Int) (x1_30 : Int) (x1_31 : Int) (x1_32 : Int) (x1_33 : Int) (x1_34 : Int) (x1_35 : Int) (x1_36 : Int) (x1_37 : List (List Ct)) (x1_38 : Int) (hc : col wl = col ml) (hl : wl.length ≤ 1000000) (hp : x1_37.length ≤ 3000) : Laid (wlay_res wl (5 : Int) x1_1 x1_2 x1_3 x1_4 x1_5 x1_6 x1_7 x1_8 x1_9 x1_10 x1_11 x1_12 x1_13 x1_14 x1_15 x1_16 x1_17 x1_18 x1_19 x1_20 x1_21 x1_22 x1_23 x1_24 x1_25 x1_26 x1_27 x1_28 x1_29 x1_30 x1_31 x1_32 x1_33 x1_34 x1_35 x1_36 x1_37 x1_38) (rlaid_res ml (5 : Int) x1_1 x1_2 x1_3 x1_4 x1_5 x1_6 x1_7 x1_8 x1_9 x1_10 x1_11 x1_12 x1_13 x1_14 x1_15 x1_16 x1_17 x1_18 x1_19 x1_20 x1_21 x1_22 x1_23 x1_24 x1_25 x1_26 x1_27 x1_28 x1_29 x1_30 x1_31 x1_32 x1_33 x1_34 x1_35 x1_36 x1_37 x1_38) wl.length := by
  have hm : ml.length = wl.length := by have := congrArg List.length hc; rw [col_length, col_length] at this; exact this.symm
  obtain ⟨da0, da1, da2, da3, da4, da5, da6, da7, da8, ea, pa0, qa0, ba0, pa1, qa1, ba1, pa2, qa2, ba2, pa3, qa3, ba3, pa4, qa4, ba4, pa5, qa5, ba5, pa6, qa6, ba6, pa7, qa7, ba7⟩ := nums x1_2
  obtain ⟨db0, db1, db2, db3, db4, db5, db6, db7, db8, eb, pb0, qb0, bb0, pb1, qb1, bb1, pb2, qb2, bb2, pb3, qb3, bb3, pb4, qb4, bb4, pb5, qb5, bb5, pb6, qb6, bb6, pb7, qb7, bb7⟩ := nums x1_3
  obtain ⟨dc0, dc1, dc2, dc3, dc4, dc5, dc6, dc7, dc8, ec, pc0, qc0, bc0, pc1, qc1, bc1, pc2, qc2, bc2, pc3, qc3, bc3, pc4, qc4, bc4, pc5, qc5, bc5, pc6, qc6, bc6, pc7, qc7, bc7⟩ := nums x1_4
  refine Exists.intro ?u (Exists.intro ?v (And.intro ?h1 (And.intro ?h2 (And.intro ?h3 ?h4))))
  case h1 =>
    unfold wlay_res
    simp only [show ((5 : Int) == (0 : Int)) = false from rfl, show ((5 : Int) == (1 : Int)) = false from rfl, show ((5 : Int) == (2 : Int)) = false from rfl, show ((5 : Int) == (3 : Int)) = false from rfl, show ((5 : Int) == (4 : Int)) = false from rfl, show ((5 : Int) == (5 : Int)) = true from rfl, show ((5 : Int) == (6 : Int)) = false from rfl, show ((5 : Int) == (7 : Int)) = false from rfl, show ((5 : Int) == (8 : Int)) = false from rfl, cond_true, cond_false, ea, pa0, qa0, ba0, pa1, qa1, ba1, pa2, qa2, ba2, pa3, qa3, ba3, pa4, qa4, ba4, eb, pb0, qb0, bb0, pb1, qb1, bb1, pb2, qb2, bb2, pb3, qb3, bb3, pb4, qb4, bb4, ec, pc0, qc0, bc0, pc1, qc1, bc1, pc2, qc2, bc2, pc3, qc3, bc3, pc4, qc4, bc4]
    repeat' refine ob_step (by (try simp only [List.length_append, List.length_cons, List.length_nil]); omega) ?_
    rfl
  case h2 =>
    unfold rlaid_res
    simp only [show ((5 : Int) == (0 : Int)) = false from rfl, show ((5 : Int) == (1 : Int)) = false from rfl, show ((5 : Int) == (2 : Int)) = false from rfl, show ((5 : Int) == (3 : Int)) = false from rfl, show ((5 : Int) == (4 : Int)) = false from rfl, show ((5 : Int) == (5 : Int)) = true from rfl, show ((5 : Int) == (6 : Int)) = false from rfl, show ((5 : Int) == (7 : Int)) = false from rfl, show ((5 : Int) == (8 : Int)) = false from rfl, cond_true, cond_false, ea, pa0, qa0, ba0, pa1, qa1, ba1, pa2, qa2, ba2, pa3, qa3, ba3, pa4, qa4, ba4, eb, pb0, qb0, bb0, pb1, qb1, bb1, pb2, qb2, bb2, pb3, qb3, bb3, pb4, qb4, bb4, ec, pc0, qc0, bc0, pc1, qc1, bc1, pc2, qc2, bc2, pc3, qc3, bc3, pc4, qc4, bc4]
    repeat' refine ob_step (by (try simp only [List.length_append, List.length_cons, List.length_nil]); omega) ?_
    rfl
  case h3 => try simp only [col_app, col_cons, col_nil, hc, List.nil_append, List.append_assoc, List.append_nil]
  case h4 => (try simp only [List.length_append, List.length_cons, List.length_nil]); omega
theorem laid_6 (wl ml : List (List Ct)) (x1_1 : Int) (x1_2 : Int) (x1_3 : Int) (x1_4 : Int) (x1_5 : Int) (x1_6 : Int) (x1_7 : Int) (x1_8 : Int) (x1_9 : Int) (x1_10 : Int) (x1_11 : Int) (x1_12 : Int) (x1_13 : Int) (x1_14 : Int) (x1_15 : Int) (x1_16 : Int) (x1_17 : Int) (x1_18 : Int) (x1_19 : Int) (x1_20 : Int) (x1_21 : Int) (x1_22 : Int) (x1_23 : Int) (x1_24 : Int) (x1_25 : Int) (x1_26 : Int) (x1_27 : Int) (x1_28 : Int) (x1_29 : Int) (x1_30 : Int) (x1_31 : Int) (x1_32 : Int) (x1_33 : Int) (x1_34 : Int) (x1_35 : Int) (x1_36 : Int) (x1_37 : List (List Ct)) (x1_38 : Int) (hc : col wl = col ml) (hl : wl.length ≤ 1000000) (hp : x1_37.length ≤ 3000) : Laid (wlay_res wl (6 : Int) x1_1 x1_2 x1_3 x1_4 x1_5 x1_6 x1_7 x1_8 x1_9 x1_10 x1_11 x1_12 x1_13 x1_14 x1_15 x1_16 x1_17 x1_18 x1_19 x1_20 x1_21 x1_22 x1_23 x1_24 x1_25 x1_26 x1_27 x1_28 x1_29 x1_30 x1_31 x1_32 x1_33 x1_34 x1_35 x1_36 x1_37 x1_38) (rlaid_res ml (6 : Int) x1_1 x1_2 x1_3 x1_4 x1_5 x1_6 x1_7 x1_8 x1_9 x1_10 x1_11 x1_12 x1_13 x1_14 x1_15 x1_16 x1_17 x1_18 x1_19 x1_20 x1_21 x1_22 x1_23 x1_24 x1_25 x1_26 x1_27 x1_28 x1_29 x1_30 x1_31 x1_32 x1_33 x1_34 x1_35 x1_36 x1_37 x1_38) wl.length := by
  have hm : ml.length = wl.length := by have := congrArg List.length hc; rw [col_length, col_length] at this; exact this.symm
  obtain ⟨da0, da1, da2, da3, da4, da5, da6, da7, da8, ea, pa0, qa0, ba0, pa1, qa1, ba1, pa2, qa2, ba2, pa3, qa3, ba3, pa4, qa4, ba4, pa5, qa5, ba5, pa6, qa6, ba6, pa7, qa7, ba7⟩ := nums x1_2
  obtain ⟨db0, db1, db2, db3, db4, db5, db6, db7, db8, eb, pb0, qb0, bb0, pb1, qb1, bb1, pb2, qb2, bb2, pb3, qb3, bb3, pb4, qb4, bb4, pb5, qb5, bb5, pb6, qb6, bb6, pb7, qb7, bb7⟩ := nums x1_3
  obtain ⟨dc0, dc1, dc2, dc3, dc4, dc5, dc6, dc7, dc8, ec, pc0, qc0, bc0, pc1, qc1, bc1, pc2, qc2, bc2, pc3, qc3, bc3, pc4, qc4, bc4, pc5, qc5, bc5, pc6, qc6, bc6, pc7, qc7, bc7⟩ := nums x1_4
  refine Exists.intro ?u (Exists.intro ?v (And.intro ?h1 (And.intro ?h2 (And.intro ?h3 ?h4))))
  case h1 =>
    unfold wlay_res
    simp only [show ((6 : Int) == (0 : Int)) = false from rfl, show ((6 : Int) == (1 : Int)) = false from rfl, show ((6 : Int) == (2 : Int)) = false from rfl, show ((6 : Int) == (3 : Int)) = false from rfl, show ((6 : Int) == (4 : Int)) = false from rfl, show ((6 : Int) == (5 : Int)) = false from rfl, show ((6 : Int) == (6 : Int)) = true from rfl, show ((6 : Int) == (7 : Int)) = false from rfl, show ((6 : Int) == (8 : Int)) = false from rfl, cond_true, cond_false, ea, pa0, qa0, ba0, pa1, qa1, ba1, pa2, qa2, ba2, pa3, qa3, ba3, pa4, qa4, ba4, eb, pb0, qb0, bb0, pb1, qb1, bb1, pb2, qb2, bb2, pb3, qb3, bb3, pb4, qb4, bb4, ec, pc0, qc0, bc0, pc1, qc1, bc1, pc2, qc2, bc2, pc3, qc3, bc3, pc4, qc4, bc4]
    repeat' refine ob_step (by (try simp only [List.length_append, List.length_cons, List.length_nil]); omega) ?_
    rfl
  case h2 =>
    unfold rlaid_res
    simp only [show ((6 : Int) == (0 : Int)) = false from rfl, show ((6 : Int) == (1 : Int)) = false from rfl, show ((6 : Int) == (2 : Int)) = false from rfl, show ((6 : Int) == (3 : Int)) = false from rfl, show ((6 : Int) == (4 : Int)) = false from rfl, show ((6 : Int) == (5 : Int)) = false from rfl, show ((6 : Int) == (6 : Int)) = true from rfl, show ((6 : Int) == (7 : Int)) = false from rfl, show ((6 : Int) == (8 : Int)) = false from rfl, cond_true, cond_false, ea, pa0, qa0, ba0, pa1, qa1, ba1, pa2, qa2, ba2, pa3, qa3, ba3, pa4, qa4, ba4, eb, pb0, qb0, bb0, pb1, qb1, bb1, pb2, qb2, bb2, pb3, qb3, bb3, pb4, qb4, bb4, ec, pc0, qc0, bc0, pc1, qc1, bc1, pc2, qc2, bc2, pc3, qc3, bc3, pc4, qc4, bc4]
    repeat' refine ob_step (by (try simp only [List.length_append, List.length_cons, List.length_nil]); omega) ?_
    rfl
  case h3 => try simp only [col_app, col_cons, col_nil, hc, List.nil_append, List.append_assoc, List.append_nil]
  case h4 => (try simp only [List.length_append, List.length_cons, List.length_nil]); omega
theorem laid_7 (wl ml : List (List Ct)) (x1_1 : Int) (x1_2 : Int) (x1_3 : Int) (x1_4 : Int) (x1_5 : Int) (x1_6 : Int) (x1_7 : Int) (x1_8 : Int) (x1_9 : Int) (x1_10 : Int) (x1_11 : Int) (x1_12 : Int) (x1_13 : Int) (x1_14 : Int) (x1_15 : Int) (x1_16 : Int) (x1_17 : Int) (x1_18 : Int) (x1_19 : Int) (x1_20 : Int) (x1_21 : Int) (x1_22 : Int) (x1_23 : Int) (x1_24 : Int) (x1_25 : Int) (x1_26 : Int) (x1_27 : Int) (x1_28 : Int) (x1_29 : Int) (x1_30 : Int) (x1_31 : Int) (x1_32 : Int) (x1_33 : Int) (x1_34 : Int) (x1_35 : Int) (x1_36 : Int) (x1_37 : List (List Ct)) (x1_38 : Int) (hc : col wl = col ml) (hl : wl.length ≤ 1000000) (hp : x1_37.length ≤ 3000) : Laid (wlay_res wl (7 : Int) x1_1 x1_2 x1_3 x1_4 x1_5 x1_6 x1_7 x1_8 x1_9 x1_10 x1_11 x1_12 x1_13 x1_14 x1_15 x1_16 x1_17 x1_18 x1_19 x1_20 x1_21 x1_22 x1_23 x1_24 x1_25 x1_26 x1_27 x1_28 x1_29 x1_30 x1_31 x1_32 x1_33 x1_34 x1_35 x1_36 x1_37 x1_38) (rlaid_res ml (7 : Int) x1_1 x1_2 x1_3 x1_4 x1_5 x1_6 x1_7 x1_8 x1_9 x1_10 x1_11 x1_12 x1_13 x1_14 x1_15 x1_16 x1_17 x1_18 x1_19 x1_20 x1_21 x1_22 x1_23 x1_24 x1_25 x1_26 x1_27 x1_28 x1_29 x1_30 x1_31 x1_32 x1_33 x1_34 x1_35 x1_36 x1_37 x1_38) wl.length := by
  have hm : ml.length = wl.length := by have := congrArg List.length hc; rw [col_length, col_length] at this; exact this.symm
  refine Exists.intro ?u (Exists.intro ?v (And.intro ?h1 (And.intro ?h2 (And.intro ?h3 ?h4))))
  case h1 =>
    unfold wlay_res
    simp only [show ((7 : Int) == (0 : Int)) = false from rfl, show ((7 : Int) == (1 : Int)) = false from rfl, show ((7 : Int) == (2 : Int)) = false from rfl, show ((7 : Int) == (3 : Int)) = false from rfl, show ((7 : Int) == (4 : Int)) = false from rfl, show ((7 : Int) == (5 : Int)) = false from rfl, show ((7 : Int) == (6 : Int)) = false from rfl, show ((7 : Int) == (7 : Int)) = true from rfl, show ((7 : Int) == (8 : Int)) = false from rfl, cond_true, cond_false]
    repeat' refine ob_step (by (try simp only [List.length_append, List.length_cons, List.length_nil]); omega) ?_
    rfl
  case h2 =>
    unfold rlaid_res
    simp only [show ((7 : Int) == (0 : Int)) = false from rfl, show ((7 : Int) == (1 : Int)) = false from rfl, show ((7 : Int) == (2 : Int)) = false from rfl, show ((7 : Int) == (3 : Int)) = false from rfl, show ((7 : Int) == (4 : Int)) = false from rfl, show ((7 : Int) == (5 : Int)) = false from rfl, show ((7 : Int) == (6 : Int)) = false from rfl, show ((7 : Int) == (7 : Int)) = true from rfl, show ((7 : Int) == (8 : Int)) = false from rfl, cond_true, cond_false]
    repeat' refine ob_step (by (try simp only [List.length_append, List.length_cons, List.length_nil]); omega) ?_
    rfl
  case h3 => try simp only [col_app, col_cons, col_nil, hc, List.nil_append, List.append_assoc, List.append_nil]
  case h4 => (try simp only [List.length_append, List.length_cons, List.length_nil]); omega
theorem laid_8 (wl ml : List (List Ct)) (x1_1 : Int) (x1_2 : Int) (x1_3 : Int) (x1_4 : Int) (x1_5 : Int) (x1_6 : Int) (x1_7 : Int) (x1_8 : Int) (x1_9 : Int) (x1_10 : Int) (x1_11 : Int) (x1_12 : Int) (x1_13 : Int) (x1_14 : Int) (x1_15 : Int) (x1_16 : Int) (x1_17 : Int) (x1_18 : Int) (x1_19 : Int) (x1_20 : Int) (x1_21 : Int) (x1_22 : Int) (x1_23 : Int) (x1_24 : Int) (x1_25 : Int) (x1_26 : Int) (x1_27 : Int) (x1_28 : Int) (x1_29 : Int) (x1_30 : Int) (x1_31 : Int) (x1_32 : Int) (x1_33 : Int) (x1_34 : Int) (x1_35 : Int) (x1_36 : Int) (x1_37 : List (List Ct)) (x1_38 : Int) (hc : col wl = col ml) (hl : wl.length ≤ 1000000) (hp : x1_37.length ≤ 3000) : Laid (wlay_res wl (8 : Int) x1_1 x1_2 x1_3 x1_4 x1_5 x1_6 x1_7 x1_8 x1_9 x1_10 x1_11 x1_12 x1_13 x1_14 x1_15 x1_16 x1_17 x1_18 x1_19 x1_20 x1_21 x1_22 x1_23 x1_24 x1_25 x1_26 x1_27 x1_28 x1_29 x1_30 x1_31 x1_32 x1_33 x1_34 x1_35 x1_36 x1_37 x1_38) (rlaid_res ml (8 : Int) x1_1 x1_2 x1_3 x1_4 x1_5 x1_6 x1_7 x1_8 x1_9 x1_10 x1_11 x1_12 x1_13 x1_14 x1_15 x1_16 x1_17 x1_18 x1_19 x1_20 x1_21 x1_22 x1_23 x1_24 x1_25 x1_26 x1_27 x1_28 x1_29 x1_30 x1_31 x1_32 x1_33 x1_34 x1_35 x1_36 x1_37 x1_38) wl.length := by
  have hm : ml.length = wl.length := by have := congrArg List.length hc; rw [col_length, col_length] at this; exact this.symm
  obtain ⟨da0, da1, da2, da3, da4, da5, da6, da7, da8, ea, pa0, qa0, ba0, pa1, qa1, ba1, pa2, qa2, ba2, pa3, qa3, ba3, pa4, qa4, ba4, pa5, qa5, ba5, pa6, qa6, ba6, pa7, qa7, ba7⟩ := nums (x1_37.length : Int)
  refine Exists.intro ?u (Exists.intro ?v (And.intro ?h1 (And.intro ?h2 (And.intro ?h3 ?h4))))
  case h1 =>
    unfold wlay_res
    simp only [show ((8 : Int) == (0 : Int)) = false from rfl, show ((8 : Int) == (1 : Int)) = false from rfl, show ((8 : Int) == (2 : Int)) = false from rfl, show ((8 : Int) == (3 : Int)) = false from rfl, show ((8 : Int) == (4 : Int)) = false from rfl, show ((8 : Int) == (5 : Int)) = false from rfl, show ((8 : Int) == (6 : Int)) = false from rfl, show ((8 : Int) == (7 : Int)) = false from rfl, show ((8 : Int) == (8 : Int)) = true from rfl, cond_true, cond_false, ea, pa0, qa0, ba0, pa1, qa1, ba1, pa2, qa2, ba2, pa3, qa3, ba3]
    repeat' refine ob_step (by (try simp only [List.length_append, List.length_cons, List.length_nil]); omega) ?_
    rfl
  case h2 =>
    unfold rlaid_res
    simp only [show ((8 : Int) == (0 : Int)) = false from rfl, show ((8 : Int) == (1 : Int)) = false from rfl, show ((8 : Int) == (2 : Int)) = false from rfl, show ((8 : Int) == (3 : Int)) = false from rfl, show ((8 : Int) == (4 : Int)) = false from rfl, show ((8 : Int) == (5 : Int)) = false from rfl, show ((8 : Int) == (6 : Int)) = false from rfl, show ((8 : Int) == (7 : Int)) = false from rfl, show ((8 : Int) == (8 : Int)) = true from rfl, cond_true, cond_false, ea, pa0, qa0, ba0, pa1, qa1, ba1, pa2, qa2, ba2, pa3, qa3, ba3]
    repeat' refine ob_step (by (try simp only [List.length_append, List.length_cons, List.length_nil]); omega) ?_
    rfl
  case h3 => try simp only [col_app, col_cons, col_nil, hc, List.nil_append, List.append_assoc, List.append_nil]
  case h4 => (try simp only [List.length_append, List.length_cons, List.length_nil]); omega
theorem laid_9 (wl ml : List (List Ct)) (x1_0 : Int) (x1_1 : Int) (x1_2 : Int) (x1_3 : Int) (x1_4 : Int) (x1_5 : Int) (x1_6 : Int) (x1_7 : Int) (x1_8 : Int) (x1_9 : Int) (x1_10 : Int) (x1_11 : Int) (x1_12 : Int) (x1_13 : Int) (x1_14 : Int) (x1_15 : Int) (x1_16 : Int) (x1_17 : Int) (x1_18 : Int) (x1_19 : Int) (x1_20 : Int) (x1_21 : Int) (x1_22 : Int) (x1_23 : Int) (x1_24 : Int) (x1_25 : Int) (x1_26 : Int) (x1_27 : Int) (x1_28 : Int) (x1_29 : Int) (x1_30 : Int) (x1_31 : Int) (x1_32 : Int) (x1_33 : Int) (x1_34 : Int) (x1_35 : Int) (x1_36 : Int) (x1_37 : List (List Ct)) (x1_38 : Int) (hc : col wl = col ml) (hl : wl.length ≤ 1000000) (hp : x1_37.length ≤ 3000) (h0 : x1_0 ≠ 0) (h1 : x1_0 ≠ 1) (h2 : x1_0 ≠ 2) (h3 : x1_0 ≠ 3) (h4 : x1_0 ≠ 4) (h5 : x1_0 ≠ 5) (h6 : x1_0 ≠ 6) (h7 : x1_0 ≠ 7) (h8 : x1_0 ≠ 8) : Laid (wlay_res wl x1_0 x1_1 x1_2 x1_3 x1_4 x1_5 x1_6 x1_7 x1_8 x1_9 x1_10 x1_11 x1_12 x1_13 x1_14 x1_15 x1_16 x1_17 x1_18 x1_19 x1_20 x1_21 x1_22 x1_23 x1_24 x1_25 x1_26 x1_27 x1_28 x1_29 x1_30 x1_31 x1_32 x1_33 x1_34 x1_35 x1_36 x1_37 x1_38) (rlaid_res ml x1_0 x1_1 x1_2 x1_3 x1_4 x1_5 x1_6 x1_7 x1_8 x1_9 x1_10 x1_11 x1_12 x1_13 x1_14 x1_15 x1_16 x1_17 x1_18 x1_19 x1_20 x1_21 x1_22 x1_23 x1_24 x1_25 x1_26 x1_27 x1_28 x1_29 x1_30 x1_31 x1_32 x1_33 x1_34 x1_35 x1_36 x1_37 x1_38) wl.length := by
  have hm : ml.length = wl.length := by have := congrArg List.length hc; rw [col_length, col_length] at this; exact this.symm
  refine Exists.intro ?u (Exists.intro ?v (And.intro ?h1 (And.intro ?h2 (And.intro ?h3 ?h4))))
  case h1 =>
    unfold wlay_res
    simp only [(show (x1_0 == (0 : Int)) = false by simpa using h0), (show (x1_0 == (1 : Int)) = false by simpa using h1), (show (x1_0 == (2 : Int)) = false by simpa using h2), (show (x1_0 == (3 : Int)) = false by simpa using h3), (show (x1_0 == (4 : Int)) = false by simpa using h4), (show (x1_0 == (5 : Int)) = false by simpa using h5), (show (x1_0 == (6 : Int)) = false by simpa using h6), (show (x1_0 == (7 : Int)) = false by simpa using h7), (show (x1_0 == (8 : Int)) = false by simpa using h8), cond_true, cond_false]
    repeat' refine ob_step (by (try simp only [List.length_append, List.length_cons, List.length_nil]); omega) ?_
    rfl
  case h2 =>
    unfold rlaid_res
    simp only [(show (x1_0 == (0 : Int)) = false by simpa using h0), (show (x1_0 == (1 : Int)) = false by simpa using h1), (show (x1_0 == (2 : Int)) = false by simpa using h2), (show (x1_0 == (3 : Int)) = false by simpa using h3), (show (x1_0 == (4 : Int)) = false by simpa using h4), (show (x1_0 == (5 : Int)) = false by simpa using h5), (show (x1_0 == (6 : Int)) = false by simpa using h6), (show (x1_0 == (7 : Int)) = false by simpa using h7), (show (x1_0 == (8 : Int)) = false by simpa using h8), cond_true, cond_false]
    repeat' refine ob_step (by (try simp only [List.length_append, List.length_cons, List.length_nil]); omega) ?_
    rfl
  case h3 => try simp only [col_app, col_cons, col_nil, hc, List.nil_append, List.append_assoc, List.append_nil]
  case h4 => (try simp only [List.length_append, List.length_cons, List.length_nil]); omega
theorem laid_all (wl ml : List (List Ct)) (x1_0 : Int) (x1_1 : Int) (x1_2 : Int) (x1_3 : Int) (x1_4 : Int) (x1_5 : Int) (x1_6 : Int) (x1_7 : Int) (x1_8 : Int) (x1_9 : Int) (x1_10 : Int) (x1_11 : Int) (x1_12 : Int) (x1_13 : Int) (x1_14 : Int) (x1_15 : Int) (x1_16 : Int) (x1_17 : Int) (x1_18 : Int) (x1_19 : Int) (x1_20 : Int) (x1_21 : Int) (x1_22 : Int) (x1_23 : Int) (x1_24 : Int) (x1_25 : Int) (x1_26 : Int) (x1_27 : Int) (x1_28 : Int) (x1_29 : Int) (x1_30 : Int) (x1_31 : Int) (x1_32 : Int) (x1_33 : Int) (x1_34 : Int) (x1_35 : Int) (x1_36 : Int) (x1_37 : List (List Ct)) (x1_38 : Int) (hc : col wl = col ml) (hl : wl.length ≤ 1000000) (hp : x1_37.length ≤ 3000) : Laid (wlay_res wl x1_0 x1_1 x1_2 x1_3 x1_4 x1_5 x1_6 x1_7 x1_8 x1_9 x1_10 x1_11 x1_12 x1_13 x1_14 x1_15 x1_16 x1_17 x1_18 x1_19 x1_20 x1_21 x1_22 x1_23 x1_24 x1_25 x1_26 x1_27 x1_28 x1_29 x1_30 x1_31 x1_32 x1_33 x1_34 x1_35 x1_36 x1_37 x1_38) (rlaid_res ml x1_0 x1_1 x1_2 x1_3 x1_4 x1_5 x1_6 x1_7 x1_8 x1_9 x1_10 x1_11 x1_12 x1_13 x1_14 x1_15 x1_16 x1_17 x1_18 x1_19 x1_20 x1_21 x1_22 x1_23 x1_24 x1_25 x1_26 x1_27 x1_28 x1_29 x1_30 x1_31 x1_32 x1_33 x1_34 x1_35 x1_36 x1_37 x1_38) wl.length := by
  by_cases h0 : x1_0 = 0
  · subst h0; exact laid_0 wl ml x1_1 x1_2 x1_3 x1_4 x1_5 x1_6 x1_7 x1_8 x1_9 x1_10 x1_11 x1_12 x1_13 x1_14 x1_15 x1_16 x1_17 x1_18 x1_19 x1_20 x1_21 x1_22 x1_23 x1_24 x1_25 x1_26 x1_27 x1_28 x1_29 x1_30 x1_31 x1_32 x1_33 x1_34 x1_35 x1_36 x1_37 x1_38 hc hl hp
  by_cases h1 : x1_0 = 1
  · subst h1; exact laid_1 wl ml x1_1 x1_2 x1_3 x1_4 x1_5 x1_6 x1_7 x1_8 x1_9 x1_10 x1_11 x1_12 x1_13 x1_14 x1_15 x1_16 x1_17 x1_18 x1_19 x1_20 x1_21 x1_22 x1_23 x1_24 x1_25 x1_26 x1_27 x1_28 x1_29 x1_30 x1_31 x1_32 x1_33 x1_34 x1_35 x1_36 x1_37 x1_38 hc hl hp
  by_cases h2 : x1_0 = 2
  · subst h2; exact laid_2 wl ml x1_1 x1_2 x1_3 x1_4 x1_5 x1_6 x1_7 x1_8 x1_9 x1_10 x1_11 x1_12 x1_13 x1_14 x1_15 x1_16 x1_17 x1_18 x1_19 x1_20 x1_21 x1_22 x1_23 x1_24 x1_25 x1_26 x1_27 x1_28 x1_29 x1_30 x1_31 x1_32 x1_33 x1_34 x1_35 x1_36 x1_37 x1_38 hc hl hp
  by_cases h3 : x1_0 = 3
  · subst h3; exact laid_3 wl ml x1_1 x1_2 x1_3 x1_4 x1_5 x1_6 x1_7 x1_8 x1_9 x1_10 x1_11 x1_12 x1_13 x1_14 x1_15 x1_16 x1_17 x1_18 x1_19 x1_20 x1_21 x1_22 x1_23 x1_24 x1_25 x1_26 x1_27 x1_28 x1_29 x1_30 x1_31 x1_32 x1_33 x1_34 x1_35 x1_36 x1_37 x1_38 hc hl hp
  by_cases h4 : x1_0 = 4
  · subst h4; exact laid_4 wl ml x1_1 x1_2 x1_3 x1_4 x1_5 x1_6 x1_7 x1_8 x1_9 x1_10 x1_11 x1_12 x1_13 x1_14 x1_15 x1_16 x1_17 x1_18 x1_19 x1_20 x1_21 x1_22 x1_23 x1_24 x1_25 x1_26 x1_27 x1_28 x1_29 x1_30 x1_31 x1_32 x1_33 x1_34 x1_35 x1_36 x1_37 x1_38 hc hl hp
  by_cases h5 : x1_0 = 5
  · subst h5; exact laid_5 wl ml x1_1 x1_2 x1_3 x1_4 x1_5 x1_6 x1_7 x1_8 x1_9 x1_10 x1_11 x1_12 x1_13 x1_14 x1_15 x1_16 x1_17 x1_18 x1_19 x1_20 x1_21 x1_22 x1_23 x1_24 x1_25 x1_26 x1_27 x1_28 x1_29 x1_30 x1_31 x1_32 x1_33 x1_34 x1_35 x1_36 x1_37 x1_38 hc hl hp
  by_cases h6 : x1_0 = 6
  · subst h6; exact laid_6 wl ml x1_1 x1_2 x1_3 x1_4 x1_5 x1_6 x1_7 x1_8 x1_9 x1_10 x1_11 x1_12 x1_13 x1_14 x1_15 x1_16 x1_17 x1_18 x1_19 x1_20 x1_21 x1_22 x1_23 x1_24 x1_25 x1_26 x1_27 x1_28 x1_29 x1_30 x1_31 x1_32 x1_33 x1_34 x1_35 x1_36 x1_37 x1_38 hc hl hp
  by_cases h7 : x1_0 = 7
  · subst h7; exact laid_7 wl ml x1_1 x1_2 x1_3 x1_4 x1_5 x1_6 x1_7 x1_8 x1_9 x1_10 x1_11 x1_12 x1_13 x1_14 x1_15 x1_16 x1_17 x1_18 x1_19 x1_20 x1_21 x1_22 x1_23 x1_24 x1_25 x1_26 x1_27 x1_28 x1_29 x1_30 x1_31 x1_32 x1_33 x1_34 x1_35 x1_36 x1_37 x1_38 hc hl hp
  by_cases h8 : x1_0 = 8
  · subst h8; exact laid_8 wl ml x1_1 x1_2 x1_3 x1_4 x1_5 x1_6 x1_7 x1_8 x1_9 x1_10 x1_11 x1_12 x1_13 x1_14 x1_15 x1_16 x1_17 x1_18 x1_19 x1_20 x1_21 x1_22 x1_23 x1_24 x1_25 x1_26 x1_27 x1_28 x1_29 x1_30 x1_31 x1_32 x1_33 x1_34 x1_35 x1_36 x1_37 x1_38 hc hl hp
  exact laid_9 wl ml x1_0 x1_1 x1_2 x1_3 x1_4 x1_5 x1_6 x1_7 x1_8 x1_9 x1_10 x1_11 x1_12 x1_13 x1_14 x1_15 x1_16 x1_17 x1_18 x1_19 x1_20 x1_21 x1_22 x1_23 x1_24 x1_25 x1_26 x1_27 x1_28 x1_29 x1_30 x1_31 x1_32 x1_33 x1_34 x1_35 x1_36 x1_37 x1_38 hc hl hp h0 h1 h2 h3 h4 h5 h6 h7 h8
end Go.Proofs.Ytidhjgcegcfmeaa
