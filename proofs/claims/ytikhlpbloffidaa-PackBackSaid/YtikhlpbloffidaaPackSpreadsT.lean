/- The law PackSpreads, its tree. No condition. -/
import Derived.Test.YtikhlpbloffidaaEngPack7
set_option linter.unusedVariables false
set_option linter.unusedSimpArgs false
namespace Go.Proofs.Ytikhlpbloffidaa
open Go.RowKit

noncomputable def lps_O (v : Bool) : Out := ⟨.sv (.one (.val false (.bool v))), [], 34, []⟩
noncomputable def lps_rd (out : Out) : Option (Bool) := some (rB (rvC out.v 0 0))
noncomputable def lps_res (x0 : List (List Ct)) (x1 : Int) : Option (Bool) := bif (decide ((↑x0.length : Int) > (20000 : Int))) then (some true) else bif ((psp_res x0 x1).isSome) then bif ((rsp_res x0 x1).isSome) then bif ((ppcs_res x0).isSome) then bif ((rpcs_res x0).isSome) then bif ((psp_v x0 x1).fst == (rsp_v x0 x1).fst) then (bif true then bif true then bif ((strOf (psp_v x0 x1).snd).toList == (strOf (rsp_v x0 x1).snd).toList) then (bif ((ppcs_v x0).fst == (rpcs_v x0).fst) then (bif ((ppcs_v x0).snd.fst == (rpcs_v x0).snd.fst) then (some ((ppcs_v x0).snd.snd == (rpcs_v x0).snd.snd)) else some false) else some false) else some false else none else none) else some false else none else none else none else none
set_option maxRecDepth 100000 in
theorem lps_tree {x0 : List (List Ct)} {x1 : Int} {v : Bool} (h : lps_res x0 x1 = some v) : CallOk Try.prog 4 [.sv (.one (.ext 0)), .sv (.one (.val false (.int .i64 x1)))] [(0, .grid [.int .u8] x0)] 1 (lps_O v) :=
  eng_tree (C := (⟨consPack7, fun _ _ _ => none, fun f => false, noFacts, fun _ => 0⟩ : Cfg Try.prog)) noFacts_ok (n := 30) (f := 4) lps_O lps_rd rfl (by kernel_rfl) h
end Go.Proofs.Ytikhlpbloffidaa
