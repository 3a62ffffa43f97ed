/- The law WaveTurns, walked by the symbolic way: it answers true for all values. No condition. -/
import Derived.Test.YtaikocplcblnkaaEngMat
set_option linter.unusedVariables false
namespace Go.Proofs.Ytaikocplcblnkaa
open Go.RowKit

theorem walk_WaveTurns (x0 : Int) (x1 : Int) (x2_0 : Int) (x2_1 : Int) (x2_2 : Int) (w : World) (_ : (Lit.int .i64 x0).wf = true) (_ : (Lit.int .i64 x1).wf = true) (_ : (Lit.int .i64 x2_0).wf = true) (_ : (Lit.int .i64 x2_1).wf = true) (_ : (Lit.int .i64 x2_2).wf = true) :
    Calls Try.prog 12 #[.int .i64 x0, .int .i64 x1, .agg #[.int .i64 x2_0, .int .i64 x2_1, .int .i64 x2_2]] w fun e w' => e = .returned (.bool true) ∧ Below w.heap.size w w' := by
  cases h1 : (x0 == 0) with
  | true =>
    cases h2 : (x0 == 1) with
    | true =>
      exfalso
      simp at h1 h2
      try omega
    | false =>
      exact eng_two (C := ⟨consTurns, fun _ => [], fun f => Nat.beq f 12, factsL [(5, (x0 == 0), true), (12, (x0 == 0), true), (13, (x0 == 1), false)]⟩) (factsL_ok (by simp [h1, h2])) (n := 30) (f := 12) (args := [.sv (.one (.val false (.int .i64 x0))), .sv (.one (.val false (.int .i64 x1))), .sv (.agg [.val false (.int .i64 x2_0), .val false (.int .i64 x2_1), .val false (.int .i64 x2_2)])]) (V := .bool true) rfl (by kernel_rfl) w
  | false =>
    cases h2 : (x0 == 1) with
    | true =>
      exact eng_two (C := ⟨consTurns, fun _ => [], fun f => Nat.beq f 12, factsL [(5, (x0 == 0), false), (6, (x0 == 1), true), (13, (x0 == 0), false), (14, (x0 == 1), true)]⟩) (factsL_ok (by simp [h1, h2])) (n := 30) (f := 12) (args := [.sv (.one (.val false (.int .i64 x0))), .sv (.one (.val false (.int .i64 x1))), .sv (.agg [.val false (.int .i64 x2_0), .val false (.int .i64 x2_1), .val false (.int .i64 x2_2)])]) (V := .bool true) rfl (by kernel_rfl) w
    | false =>
      exact eng_two (C := ⟨consTurns, fun _ => [], fun f => Nat.beq f 12, factsL [(5, (x0 == 0), false), (6, (x0 == 1), false), (13, (x0 == 0), false), (14, (x0 == 1), false)]⟩) (factsL_ok (by simp [h1, h2])) (n := 30) (f := 12) (args := [.sv (.one (.val false (.int .i64 x0))), .sv (.one (.val false (.int .i64 x1))), .sv (.agg [.val false (.int .i64 x2_0), .val false (.int .i64 x2_1), .val false (.int .i64 x2_2)])]) (V := .bool true) rfl (by kernel_rfl) w
end Go.Proofs.Ytaikocplcblnkaa
