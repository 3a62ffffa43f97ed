/- The law PackBack, its tree. No condition. -/
import Derived.Test.YtikhlpbloffidaaEngPack7
set_option linter.unusedVariables false
set_option linter.unusedSimpArgs false
namespace Go.Proofs.Ytikhlpbloffidaa
open Go.RowKit

noncomputable def lpb_O (v : Bool) : Out := ⟨.sv (.one (.val false (.bool v))), [], 34, []⟩
noncomputable def lpb_rd (out : Out) : Option (Bool) := some (rB (rvC out.v 0 0))
noncomputable def lpb_res (x0 : List (List Ct)) (x1 : Int) : Option (Bool) := bif (decide ((↑x0.length : Int) > (20000 : Int))) then (some true) else bif (pprs_L0_p x0) then bif ((psp_res (pprs_v x0) (↑x0.length : Int)).isSome) then bif ((psp_v (pprs_v x0) (↑x0.length : Int)).fst != (0 : Int)) then (some false) else bif true then bif true then bif (!(strOf (psp_v (pprs_v x0) (↑x0.length : Int)).snd).toList == (strOf x0).toList) then (some false) else bif ((↑x0.length : Int) == (0 : Int)) then (some true) else bif (decide ((↑x0.length : Int) ≠ (0 : Int))) then bif ((psp_res (pprs_v x0) (IntKind.i64.wrap (IntKind.i64.wrap ((↑x0.length : Int) - (1 : Int)) - (IntKind.i64.wrap x1).tmod (↑x0.length : Int)))).isSome) then bif (decide ((0 : Int) ≤ (0 : Int) ∧ (0 : Int) ≤ IntKind.i64.wrap ((↑(pprs_v x0).length : Int) - (1 : Int)) ∧ IntKind.i64.wrap ((↑(pprs_v x0).length : Int) - (1 : Int)) ≤ (↑(pprs_v x0).length : Int))) then bif ((psp_res (partOf (pprs_v x0) (0 : Int) (IntKind.i64.wrap ((↑(pprs_v x0).length : Int) - (1 : Int)))) (↑x0.length : Int)).isSome) then bif ((psp_v (pprs_v x0) (IntKind.i64.wrap (IntKind.i64.wrap ((↑x0.length : Int) - (1 : Int)) - (IntKind.i64.wrap x1).tmod (↑x0.length : Int)))).fst == (8 : Int)) then (some ((psp_v (partOf (pprs_v x0) (0 : Int) (IntKind.i64.wrap ((↑(pprs_v x0).length : Int) - (1 : Int)))) (↑x0.length : Int)).fst == (9 : Int))) else some false else none else none else none else none else none else none else none else none
set_option maxRecDepth 100000 in
theorem lpb_tree {x0 : List (List Ct)} {x1 : Int} {v : Bool} (h : lpb_res x0 x1 = some v) : CallOk Try.prog 5 [.sv (.one (.ext 0)), .sv (.one (.val false (.int .u8 x1)))] [(0, .grid [.int .u8] x0)] 1 (lpb_O v) :=
  eng_tree (C := (⟨consPack7, fun _ _ _ => none, fun f => false, noFacts, fun _ => 0⟩ : Cfg Try.prog)) noFacts_ok (n := 30) (f := 5) lpb_O lpb_rd rfl (by kernel_rfl) h
end Go.Proofs.Ytikhlpbloffidaa
