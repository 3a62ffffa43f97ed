/- The law FlickWrites, its tree. No condition. -/
import Derived.Test.YtcpbiijegbbafaaEngFkM
import Derived.Test.YtcpbiijegbbafaaEngFk9
import Derived.Test.YtcpbiijegbbafaaEngFlickA
set_option linter.unusedVariables false
set_option linter.unusedSimpArgs false
namespace Go.Proofs.Ytcpbiijegbbafaa
open Go.RowKit

noncomputable def consFkW : List (Con Try.prog) := rfe_con.freezeO :: consFkN
noncomputable def lfw_O (v : Bool) : Out := ⟨.sv (.one (.val false (.bool v))), [], 252, []⟩
noncomputable def lfw_rd (out : Out) : Option (Bool) := some (rB (rvC out.v 0 0))
noncomputable def lfw_c97247988 (x0 : List (List Ct)) : Int × List (List Ct) := fen_v (pal_v x0)
noncomputable def lfw_c57182422 (x0 : List (List Ct)) : Int × List (List Ct) := fki_v (lfw_c97247988 x0).snd
noncomputable def lfw_c26706660 (x0 : List (List Ct)) : Bool := isa_v (lfw_c57182422 x0).snd (rfe_v x0).snd.snd
noncomputable def lfw_res (x0 : List (List Ct)) : Option (Bool) := bif ((lig_res x0).isSome) then bif (!lig_v x0) then (some true) else bif ((pal_res x0).isSome) then bif ((fen_res (pal_v x0)).isSome) then bif ((rfe_res x0).isSome) then bif ((lfw_c97247988 x0).fst != (rfe_v x0).fst) then (some false) else bif true then bif true then bif (!(strOf (lfw_c97247988 x0).snd).toList == (strOf (rfe_v x0).snd.fst).toList) then (some false) else bif ((rfe_v x0).fst != (0 : Int)) then (some true) else bif ((fki_res (lfw_c97247988 x0).snd).isSome) then bif ((lfw_c57182422 x0).fst == (0 : Int)) then (bif ((isa_res (lfw_c57182422 x0).snd (rfe_v x0).snd.snd).isSome) then some (lfw_c26706660 x0) else none) else some false else none else none else none else none else none else none else none
set_option maxRecDepth 100000 in
theorem lfw_tree {x0 : List (List Ct)} {v : Bool} (h : lfw_res x0 = some v) : CallOk Try.prog 7 [.sv (.one (.ext 0))] [(0, .grid [.int .i64, .int .i64, .sl [.int .u8, .int .u8, .int .u8]] x0)] 1 (lfw_O v) :=
  eng_tree (C := (⟨consFkW, fun _ _ _ => none, fun f => false, noFacts, fun _ => 0⟩ : Cfg Try.prog)) noFacts_ok (n := 30) (f := 7) lfw_O lfw_rd rfl (by kernel_rfl) h
end Go.Proofs.Ytcpbiijegbbafaa
