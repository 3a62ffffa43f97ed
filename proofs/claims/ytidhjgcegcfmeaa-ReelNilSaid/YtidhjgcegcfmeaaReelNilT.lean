/- The law ReelNil, its tree. No condition. -/
import Derived.Test.YtidhjgcegcfmeaaEngReel
import Derived.Test.YtidhjgcegcfmeaaIter
set_option linter.unusedVariables false
set_option linter.unusedSimpArgs false
namespace Go.Proofs.Ytidhjgcegcfmeaa
open Go.RowKit

noncomputable def lrn_O (v : Bool) : Out := ⟨.sv (.one (.val false (.bool v))), [], 12, []⟩
noncomputable def lrn_rd (out : Out) : Option (Bool) := some (rB (rvC out.v 0 0))
noncomputable def lrn_res (x0 : Int) (x1 : List (List Ct)) : Option (Bool) := bif true then bif (decide (0 + 0 ≤ 9223372036854775807 ∧ 0 * 1 ≤ 140737488355328)) then bif ((↑(([] : List (List Ct)) ++ []).length : Int) == (0 : Int)) then (some true) else some false else none else none
set_option maxRecDepth 100000 in
theorem lrn_tree {x0 : Int} {x1 : List (List Ct)} {v : Bool} (h : lrn_res x0 x1 = some v) : CallOk Try.prog 5 [.sv (.one (.val false (.int .i64 x0))), .sv (.one (.ext 0))] [(0, .grid [.int .u8] x1)] 1 (lrn_O v) :=
  eng_tree (C := (⟨consReel, fun _ _ _ => none, fun f => false, noFacts, fun _ => 0⟩ : Cfg Try.prog)) noFacts_ok (n := 30) (f := 5) lrn_O lrn_rd rfl (by kernel_rfl) h
end Go.Proofs.Ytidhjgcegcfmeaa
