/- The law PackWorst, its tree. No condition. -/
import Derived.Test.YtkbhnomgkmeojaaEngPack
import Derived.Test.YtkbhnomgkmeojaaIter
set_option linter.unusedVariables false
set_option linter.unusedSimpArgs false
namespace Go.Proofs.Ytkbhnomgkmeojaa
open Go.RowKit

noncomputable def lpw_O (v : Bool) : Out := ⟨.sv (.one (.val false (.bool v))), [], 6, []⟩
noncomputable def lpw_rd (out : Out) : Option (Bool) := some (rB (rvC out.v 0 0))
noncomputable def lpw_res (x0 : Int) : Option (Bool) := bif (decide (x0 ≤ (0 : Int))) then (bif (decide (x0 ≤ (0 : Int))) then (some true) else bif (decide (x0 > (1073741824 : Int))) then (some true) else bif (decide ((0 : Int) > x0)) then (bif (decide (IntKind.i64.wrap (IntKind.i64.wrap ((0 : Int) - x0) * (128 : Int)) ≥ x0)) then (some (decide (IntKind.i64.wrap (IntKind.i64.wrap (IntKind.i64.wrap ((0 : Int) - x0) - (1 : Int)) * (128 : Int)) < x0))) else some false) else some false) else bif (decide (x0 > (1073741824 : Int))) then (bif (decide (x0 ≤ (0 : Int))) then (some true) else bif (decide (x0 > (1073741824 : Int))) then (some true) else bif (decide ((0 : Int) > x0)) then (bif (decide (IntKind.i64.wrap (IntKind.i64.wrap ((0 : Int) - x0) * (128 : Int)) ≥ x0)) then (some (decide (IntKind.i64.wrap (IntKind.i64.wrap (IntKind.i64.wrap ((0 : Int) - x0) - (1 : Int)) * (128 : Int)) < x0))) else some false) else some false) else bif (decide (x0 ≤ (0 : Int))) then (some (IntKind.i64.wrap (x0 + IntKind.i64.wrap ((IntKind.i64.wrap (IntKind.i64.wrap (x0 + (128 : Int)) - (1 : Int))).tdiv (128 : Int))) == (0 : Int))) else bif (decide (x0 > (1073741824 : Int))) then (some (IntKind.i64.wrap (x0 + IntKind.i64.wrap ((IntKind.i64.wrap (IntKind.i64.wrap (x0 + (128 : Int)) - (1 : Int))).tdiv (128 : Int))) == (0 : Int))) else bif (decide (IntKind.i64.wrap (x0 + IntKind.i64.wrap ((IntKind.i64.wrap (IntKind.i64.wrap (x0 + (128 : Int)) - (1 : Int))).tdiv (128 : Int))) > x0)) then (bif (decide (IntKind.i64.wrap (IntKind.i64.wrap (IntKind.i64.wrap (x0 + IntKind.i64.wrap ((IntKind.i64.wrap (IntKind.i64.wrap (x0 + (128 : Int)) - (1 : Int))).tdiv (128 : Int))) - x0) * (128 : Int)) ≥ x0)) then (some (decide (IntKind.i64.wrap (IntKind.i64.wrap (IntKind.i64.wrap (IntKind.i64.wrap (x0 + IntKind.i64.wrap ((IntKind.i64.wrap (IntKind.i64.wrap (x0 + (128 : Int)) - (1 : Int))).tdiv (128 : Int))) - x0) - (1 : Int)) * (128 : Int)) < x0))) else some false) else some false
set_option maxRecDepth 100000 in
theorem lpw_tree {x0 : Int} {v : Bool} (h : lpw_res x0 = some v) : CallOk Try.prog 12 [.sv (.one (.val false (.int .i64 x0)))] [] 0 (lpw_O v) :=
  eng_tree (C := (⟨consPack, fun _ _ _ => none, fun f => false, noFacts, fun _ => 0⟩ : Cfg Try.prog)) noFacts_ok (n := 30) (f := 12) lpw_O lpw_rd rfl (by kernel_rfl) h
end Go.Proofs.Ytkbhnomgkmeojaa
