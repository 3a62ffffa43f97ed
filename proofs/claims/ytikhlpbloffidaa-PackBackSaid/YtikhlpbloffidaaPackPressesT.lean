/- The law PackPresses, its tree. No condition. -/
import Derived.Test.YtikhlpbloffidaaEngPack7
set_option linter.unusedVariables false
set_option linter.unusedSimpArgs false
namespace Go.Proofs.Ytikhlpbloffidaa
open Go.RowKit

noncomputable def lpp_O (v : Bool) : Out := ⟨.sv (.one (.val false (.bool v))), [], 11, []⟩
noncomputable def lpp_rd (out : Out) : Option (Bool) := some (rB (rvC out.v 0 0))
noncomputable def lpp_res (x0 : List (List Ct)) : Option (Bool) := bif (decide ((↑x0.length : Int) > (20000 : Int))) then (some true) else bif (pprs_L0_p x0) then bif true then bif (rprs_L0_p x0) then bif true then bif ((strOf (pprs_v x0)).toList == (strOf (rprs_v x0)).toList) then (bif ((↑x0.length : Int) == (0 : Int)) then (bif ((↑(pprs_v x0).length : Int) == (0 : Int)) then (some true) else bif (decide ((↑x0.length : Int) ≤ (0 : Int))) then (some (decide ((↑(pprs_v x0).length : Int) ≤ (0 : Int)))) else bif (decide ((↑x0.length : Int) > (1073741824 : Int))) then (some (decide ((↑(pprs_v x0).length : Int) ≤ (0 : Int)))) else some (decide ((↑(pprs_v x0).length : Int) ≤ IntKind.i64.wrap ((↑x0.length : Int) + IntKind.i64.wrap ((IntKind.i64.wrap (IntKind.i64.wrap ((↑x0.length : Int) + (128 : Int)) - (1 : Int))).tdiv (128 : Int)))))) else bif (decide ((↑x0.length : Int) ≤ (0 : Int))) then (some (decide ((↑(pprs_v x0).length : Int) ≤ (0 : Int)))) else bif (decide ((↑x0.length : Int) > (1073741824 : Int))) then (some (decide ((↑(pprs_v x0).length : Int) ≤ (0 : Int)))) else some (decide ((↑(pprs_v x0).length : Int) ≤ IntKind.i64.wrap ((↑x0.length : Int) + IntKind.i64.wrap ((IntKind.i64.wrap (IntKind.i64.wrap ((↑x0.length : Int) + (128 : Int)) - (1 : Int))).tdiv (128 : Int)))))) else some false else none else none else none else none
set_option maxRecDepth 100000 in
theorem lpp_tree {x0 : List (List Ct)} {v : Bool} (h : lpp_res x0 = some v) : CallOk Try.prog 3 [.sv (.one (.ext 0))] [(0, .grid [.int .u8] x0)] 1 (lpp_O v) :=
  eng_tree (C := (⟨consPack7, fun _ _ _ => none, fun f => false, noFacts, fun _ => 0⟩ : Cfg Try.prog)) noFacts_ok (n := 30) (f := 3) lpp_O lpp_rd rfl (by kernel_rfl) h
end Go.Proofs.Ytikhlpbloffidaa
