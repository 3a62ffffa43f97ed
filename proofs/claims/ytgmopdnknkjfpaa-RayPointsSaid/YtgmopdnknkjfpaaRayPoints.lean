/- The law RayPoints: it answers true for all values. No condition. -/
import Derived.Test.YtgmopdnknkjfpaaRayPointsT
set_option linter.unusedVariables false
set_option linter.unusedSimpArgs false
namespace Go.Proofs.Ytgmopdnknkjfpaa
open Go.RowKit

theorem if_cond {p : Prop} [Decidable p] {a b : Int} : (if p then a else b) = bif decide p then a else b := by by_cases h : p <;> simp [h]
theorem lrp_true (x0_0 x0_1 x0_2 x0_3 x0_4 x0_5 x0_6 x1 x2 x3_0 x3_1 x3_2 x4_0 x4_1 x4_2 x4_3 x4_4 x4_5 x4_6 x4_7 x5_0 x5_1 x5_2 x5_3 x5_4 x5_5 x5_6 x5_7 : Int) : lrp_res x0_0 x0_1 x0_2 x0_3 x0_4 x0_5 x0_6 x1 x2 x3_0 x3_1 x3_2 x4_0 x4_1 x4_2 x4_3 x4_4 x4_5 x4_6 x4_7 x5_0 x5_1 x5_2 x5_3 x5_4 x5_5 x5_6 x5_7 = some true := by
  unfold lrp_res
  simp only [if_cond, beq_self_eq_true, Bool.and_true, cond_true]
  generalize decide (x4_0 < x5_0) = p
  generalize (x4_0 == x5_0) = q
  cases p <;> cases q <;> rfl
theorem lrp_call (x0_0 x0_1 x0_2 x0_3 x0_4 x0_5 x0_6 x1 x2 x3_0 x3_1 x3_2 x4_0 x4_1 x4_2 x4_3 x4_4 x4_5 x4_6 x4_7 x5_0 x5_1 x5_2 x5_3 x5_4 x5_5 x5_6 x5_7 : Int) : CallOk Try.prog 3 [.sv (.agg [.val false (.int .i64 x0_0), .val false (.int .i64 x0_1), .val false (.int .i64 x0_2), .val false (.int .i64 x0_3), .val false (.int .i64 x0_4), .val false (.int .i64 x0_5), .val false (.int .i64 x0_6)]), .sv (.one (.val false (.int .i64 x1))), .sv (.one (.val false (.int .i64 x2))), .sv (.agg [.val false (.int .i64 x3_0), .val false (.int .i64 x3_1), .val false (.int .i64 x3_2)]), .sv (.agg [.val false (.int .i64 x4_0), .val false (.int .i64 x4_1), .val false (.int .i64 x4_2), .val false (.int .i64 x4_3), .val false (.int .i64 x4_4), .val false (.int .i64 x4_5), .val false (.int .i64 x4_6), .val false (.int .i64 x4_7)]), .sv (.agg [.val false (.int .i64 x5_0), .val false (.int .i64 x5_1), .val false (.int .i64 x5_2), .val false (.int .i64 x5_3), .val false (.int .i64 x5_4), .val false (.int .i64 x5_5), .val false (.int .i64 x5_6), .val false (.int .i64 x5_7)])] [] 0 (lrp_O true) := lrp_tree (lrp_true x0_0 x0_1 x0_2 x0_3 x0_4 x0_5 x0_6 x1 x2 x3_0 x3_1 x3_2 x4_0 x4_1 x4_2 x4_3 x4_4 x4_5 x4_6 x4_7 x5_0 x5_1 x5_2 x5_3 x5_4 x5_5 x5_6 x5_7)
end Go.Proofs.Ytgmopdnknkjfpaa
