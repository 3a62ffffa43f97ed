/- The law HueSums, walked by the symbolic way: it answers true for all values. No condition. -/
import Derived.Test.YtaikocplcblnkabEngFix
set_option linter.unusedVariables false
namespace Go.Proofs.Ytaikocplcblnkab
open Go.RowKit

def cfgHueSums : Cfg Try.prog := ⟨consFix, fun _ => [], fun f => Nat.beq f 3, noFacts⟩
theorem walk_HueSums (x0_0 : Int) (x0_1 : Int) (x0_2 : Int) (x1_0 : Int) (x1_1 : Int) (x1_2 : Int) (x2 : Int) (w : World) (_ : (Lit.int .i64 x0_0).wf = true) (_ : (Lit.int .i64 x0_1).wf = true) (_ : (Lit.int .i64 x0_2).wf = true) (_ : (Lit.int .i64 x1_0).wf = true) (_ : (Lit.int .i64 x1_1).wf = true) (_ : (Lit.int .i64 x1_2).wf = true) (_ : (Lit.int .i64 x2).wf = true) :
    Calls Try.prog 3 #[.agg #[.int .i64 x0_0, .int .i64 x0_1, .int .i64 x0_2], .agg #[.int .i64 x1_0, .int .i64 x1_1, .int .i64 x1_2], .int .i64 x2] w fun e w' => e = .returned (.bool true) ∧ Below w.heap.size w w' :=
  eng_two (C := cfgHueSums) noFacts_ok (n := 20) (f := 3) (args := [.sv (.agg [.val false (.int .i64 x0_0), .val false (.int .i64 x0_1), .val false (.int .i64 x0_2)]), .sv (.agg [.val false (.int .i64 x1_0), .val false (.int .i64 x1_1), .val false (.int .i64 x1_2)]), .sv (.one (.val false (.int .i64 x2)))]) (V := .bool true) rfl (by kernel_rfl) w
end Go.Proofs.Ytaikocplcblnkab
