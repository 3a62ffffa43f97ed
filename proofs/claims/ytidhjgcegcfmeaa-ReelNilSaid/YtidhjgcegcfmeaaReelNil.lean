/- The law ReelNil: it answers true for all values. No condition. -/
import Derived.Test.YtidhjgcegcfmeaaReelNilT
set_option linter.unusedVariables false
set_option linter.unusedSimpArgs false
namespace Go.Proofs.Ytidhjgcegcfmeaa
open Go.RowKit

theorem lrn_true (x0 : Int) (x1 : List (List Ct)) : lrn_res x0 x1 = some true := by simp [lrn_res]
theorem lrn_call (x0 : Int) (x1 : List (List Ct)) : CallOk Try.prog 5 [.sv (.one (.val false (.int .i64 x0))), .sv (.one (.ext 0))] [(0, .grid [.int .u8] x1)] 1 (lrn_O true) := lrn_tree (lrn_true x0 x1)
end Go.Proofs.Ytidhjgcegcfmeaa
