/- The laws LaceLevels and LaceSmooths: they answer true for all values. No condition. -/
import Derived.Test.YtijidmcblpgfkaaDoorLcJ
import Derived.Test.YtijidmcblpgfkaaDoorLaceLevelsT
import Derived.Test.YtijidmcblpgfkaaDoorLaceSmoothsT
set_option linter.unusedVariables false
set_option linter.unusedSimpArgs false
namespace Go.Proofs.YtijidmcblpgfkaaDoor
open Go.RowKit

section
variable {gT : List (List Ct)} (hg : gtB gT = true) {x0_0 x0_1 : Int} {x0_2 x0_3 x0_4 x0_5 x0_6 x0_7 : List (List Ct)} {x1_0 x1_1 : Int} {x1_2 : List (List Ct)} {x2 : Int} (b3 : x0_3.length ≤ 1048576) (b4 : x0_4.length ≤ 1048576) (b5 : x0_5.length ≤ 1048576) (b7 : x0_7.length ≤ 1048576)
include hg b3 b4 b5 b7
theorem lll_true : lll_res gT x0_0 x0_1 x0_2 x0_3 x0_4 x0_5 x0_6 x0_7 x1_0 x1_1 x1_2 x2 = some true := by
  unfold lll_res
  cases hl : (!bif decide ((x0_2.length : Int) ≤ (100 : Int)) then bif decide ((x0_6.length : Int) ≤ (100 : Int)) then decide ((x1_2.length : Int) ≤ (100 : Int)) else false else false) with
  | true => rw [hg]; rfl
  | false =>
    have hb : x0_2.length ≤ 100 ∧ x0_6.length ≤ 100 ∧ x1_2.length ≤ 100 := by
      simp only [Bool.cond_false_right, Bool.not_eq_false', Bool.and_eq_true, decide_eq_true_eq] at hl
      omega
    have e : lll_c94385502 gT x0_0 x0_1 x0_2 x0_3 x0_4 x0_5 x0_6 x0_7 x1_0 x1_1 x1_2 x2 = levS x0_0 x0_1 x0_2 x0_3 x0_4 x0_5 x0_6 x0_7 x1_0 x1_1 x1_2 x2 := levS_c (copy3 _) (copy1 _) (copy3 _) (copy3 _) (copy3 _)
    have e2 : rle_v x0_0 x0_1 x0_2 x0_3 x0_4 x0_5 x0_6 x0_7 x1_0 x1_1 x1_2 x2 = levS x0_0 x0_1 x0_2 x0_3 x0_4 x0_5 x0_6 x0_7 x1_0 x1_1 x1_2 x2 := rfl
    have hn := levS_len (w := x0_0) (h := x0_1) (w' := x1_0) (h' := x1_1) (n := x2) (L := x0_2) (M := x1_2) (D := x0_3) (N := x0_4) (B := x0_5) (S := x0_6) (F := x0_7)
    have e3 : lll_c8115706 gT x0_0 x0_1 x0_2 x0_3 x0_4 x0_5 x0_6 x0_7 x1_0 x1_1 x1_2 x2 = fsh_v (levS x0_0 x0_1 x0_2 x0_3 x0_4 x0_5 x0_6 x0_7 x1_0 x1_1 x1_2 x2).1 (levS x0_0 x0_1 x0_2 x0_3 x0_4 x0_5 x0_6 x0_7 x1_0 x1_1 x1_2 x2).2.1 (levS x0_0 x0_1 x0_2 x0_3 x0_4 x0_5 x0_6 x0_7 x1_0 x1_1 x1_2 x2).2.2.2 := by
      unfold lll_c8115706
      rw [e]
    have e4 : lll_c49530888 gT x0_0 x0_1 x0_2 x0_3 x0_4 x0_5 x0_6 x0_7 x1_0 x1_1 x1_2 x2 = true := by
      unfold lll_c49530888
      rw [e3, e2]
      exact sheet_back _ _ _
    have q1 : decide (x0_2.length ≤ 1048576 ∧ x0_3.length ≤ 1048576 ∧ x0_4.length ≤ 1048576 ∧ x0_5.length ≤ 1048576 ∧ x0_6.length ≤ 1048576 ∧ x0_7.length ≤ 1048576) = true := decide_eq_true ⟨by omega, b3, b4, b5, by omega, b7⟩
    have q2 : decide (x1_2.length ≤ 1048576) = true := decide_eq_true (by omega)
    have q3 : decide ((levS x0_0 x0_1 x0_2 x0_3 x0_4 x0_5 x0_6 x0_7 x1_0 x1_1 x1_2 x2).2.2.2.length ≤ 1048576) = true := decide_eq_true (by omega)
    have q4 : decide ((fsh_v (levS x0_0 x0_1 x0_2 x0_3 x0_4 x0_5 x0_6 x0_7 x1_0 x1_1 x1_2 x2).1 (levS x0_0 x0_1 x0_2 x0_3 x0_4 x0_5 x0_6 x0_7 x1_0 x1_1 x1_2 x2).2.1 (levS x0_0 x0_1 x0_2 x0_3 x0_4 x0_5 x0_6 x0_7 x1_0 x1_1 x1_2 x2).2.2.2).2.2.length ≤ 9223372036854775000) = true := decide_eq_true (by show (tab _ _).length ≤ _; rw [tab_length]; omega)
    have aw : awk_v gT = true := rfl
    simp only [q1, q2, hg, aw, e, e2, e3, e4, q3, q4, beq_self_eq_true, cond_true, cond_false, Bool.and_self]
theorem lls_true : lls_res gT x0_0 x0_1 x0_2 x0_3 x0_4 x0_5 x0_6 x0_7 x1_0 x1_1 x1_2 = some true := by
  unfold lls_res
  cases hl : (!bif decide ((x0_2.length : Int) ≤ (100 : Int)) then bif decide ((x0_6.length : Int) ≤ (100 : Int)) then decide ((x1_2.length : Int) ≤ (100 : Int)) else false else false) with
  | true => rw [hg]; rfl
  | false =>
    have hb : x0_2.length ≤ 100 ∧ x0_6.length ≤ 100 ∧ x1_2.length ≤ 100 := by
      simp only [Bool.cond_false_right, Bool.not_eq_false', Bool.and_eq_true, decide_eq_true_eq] at hl
      omega
    have e : lls_c6170180 gT x0_0 x0_1 x0_2 x0_3 x0_4 x0_5 x0_6 x0_7 x1_0 x1_1 x1_2 = smoS x0_0 x0_1 x0_2 x0_3 x0_4 x0_5 x0_6 x0_7 x1_0 x1_1 x1_2 := smoS_c (copy3 _) (copy1 _) (copy3 _) (copy3 _) (copy3 _)
    have e2 : rsm_v x0_0 x0_1 x0_2 x0_3 x0_4 x0_5 x0_6 x0_7 x1_0 x1_1 x1_2 = smoS x0_0 x0_1 x0_2 x0_3 x0_4 x0_5 x0_6 x0_7 x1_0 x1_1 x1_2 := rfl
    have hn := smoS_len (w := x0_0) (h := x0_1) (w' := x1_0) (h' := x1_1) (L := x0_2) (M := x1_2) (D := x0_3) (N := x0_4) (B := x0_5) (S := x0_6) (F := x0_7)
    have e3 : lls_c20961909 gT x0_0 x0_1 x0_2 x0_3 x0_4 x0_5 x0_6 x0_7 x1_0 x1_1 x1_2 = fsh_v (smoS x0_0 x0_1 x0_2 x0_3 x0_4 x0_5 x0_6 x0_7 x1_0 x1_1 x1_2).1 (smoS x0_0 x0_1 x0_2 x0_3 x0_4 x0_5 x0_6 x0_7 x1_0 x1_1 x1_2).2.1 (smoS x0_0 x0_1 x0_2 x0_3 x0_4 x0_5 x0_6 x0_7 x1_0 x1_1 x1_2).2.2.2 := by
      unfold lls_c20961909
      rw [e]
    have e4 : lls_c13776424 gT x0_0 x0_1 x0_2 x0_3 x0_4 x0_5 x0_6 x0_7 x1_0 x1_1 x1_2 = true := by
      unfold lls_c13776424
      rw [e3, e2]
      exact sheet_back _ _ _
    have q1 : decide (x0_2.length ≤ 1048576 ∧ x0_3.length ≤ 1048576 ∧ x0_4.length ≤ 1048576 ∧ x0_5.length ≤ 1048576 ∧ x0_6.length ≤ 1048576 ∧ x0_7.length ≤ 1048576) = true := decide_eq_true ⟨by omega, b3, b4, b5, by omega, b7⟩
    have q2 : decide (x1_2.length ≤ 1048576) = true := decide_eq_true (by omega)
    have q3 : decide ((smoS x0_0 x0_1 x0_2 x0_3 x0_4 x0_5 x0_6 x0_7 x1_0 x1_1 x1_2).2.2.2.length ≤ 1048576) = true := decide_eq_true (by omega)
    have q4 : decide ((fsh_v (smoS x0_0 x0_1 x0_2 x0_3 x0_4 x0_5 x0_6 x0_7 x1_0 x1_1 x1_2).1 (smoS x0_0 x0_1 x0_2 x0_3 x0_4 x0_5 x0_6 x0_7 x1_0 x1_1 x1_2).2.1 (smoS x0_0 x0_1 x0_2 x0_3 x0_4 x0_5 x0_6 x0_7 x1_0 x1_1 x1_2).2.2.2).2.2.length ≤ 9223372036854775000) = true := decide_eq_true (by show (tab _ _).length ≤ _; rw [tab_length]; omega)
    have aw : awk_v gT = true := rfl
    simp only [q1, q2, hg, aw, e, e2, e3, e4, q3, q4, beq_self_eq_true, cond_true, cond_false, Bool.and_self]
end
/-- The package variable's numbers. -/
def tapsG : List (List Ct) := numRows [6, 4, 1]
theorem tapsG_ok : gtB tapsG = true := by decide
theorem lll_call (x0_0 x0_1 : Int) (x0_2 x0_3 x0_4 x0_5 x0_6 x0_7 : List (List Ct)) (x1_0 x1_1 : Int) (x1_2 : List (List Ct)) (x2 : Int) (b3 : x0_3.length ≤ 1048576) (b4 : x0_4.length ≤ 1048576) (b5 : x0_5.length ≤ 1048576) (b7 : x0_7.length ≤ 1048576) : CallOk Tryd.prog 3 [.sv (.agg [.val false (.int .i64 x0_0), .val false (.int .i64 x0_1), .ext 2, .ext 3, .ext 4, .ext 5, .ext 6, .ext 7]), .sv (.agg [.val false (.int .i64 x1_0), .val false (.int .i64 x1_1), .ext 8]), .sv (.one (.val false (.int .i64 x2)))] [(0, .grid [.int .i64] tapsG), (1, .tie true 0 0), (2, .grid [.int .i64, .int .i64, .int .i64] x0_2), (3, .grid [.int .i64] x0_3), (4, .grid [.int .i64, .int .i64, .int .i64] x0_4), (5, .grid [.int .i64, .int .i64, .int .i64] x0_5), (6, .grid [.int .i64] x0_6), (7, .grid [.int .i64] x0_7), (8, .grid [.int .i64, .int .i64, .int .i64] x1_2)] 9 (lll_O true) := lll_tree (lll_true tapsG_ok b3 b4 b5 b7)
theorem lls_call (x0_0 x0_1 : Int) (x0_2 x0_3 x0_4 x0_5 x0_6 x0_7 : List (List Ct)) (x1_0 x1_1 : Int) (x1_2 : List (List Ct)) (b3 : x0_3.length ≤ 1048576) (b4 : x0_4.length ≤ 1048576) (b5 : x0_5.length ≤ 1048576) (b7 : x0_7.length ≤ 1048576) : CallOk Tryd.prog 4 [.sv (.agg [.val false (.int .i64 x0_0), .val false (.int .i64 x0_1), .ext 2, .ext 3, .ext 4, .ext 5, .ext 6, .ext 7]), .sv (.agg [.val false (.int .i64 x1_0), .val false (.int .i64 x1_1), .ext 8])] [(0, .grid [.int .i64] tapsG), (1, .tie true 0 0), (2, .grid [.int .i64, .int .i64, .int .i64] x0_2), (3, .grid [.int .i64] x0_3), (4, .grid [.int .i64, .int .i64, .int .i64] x0_4), (5, .grid [.int .i64, .int .i64, .int .i64] x0_5), (6, .grid [.int .i64] x0_6), (7, .grid [.int .i64] x0_7), (8, .grid [.int .i64, .int .i64, .int .i64] x1_2)] 9 (lls_O true) := lls_tree (lls_true tapsG_ok b3 b4 b5 b7)
end Go.Proofs.YtijidmcblpgfkaaDoor
