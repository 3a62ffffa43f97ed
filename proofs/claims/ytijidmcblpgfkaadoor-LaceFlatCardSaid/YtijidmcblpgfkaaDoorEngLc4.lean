/- How much a pixel counts, the tree. No condition. -/
import Derived.Test.YtijidmcblpgfkaaDoorEngLc3
set_option linter.unusedVariables false
set_option linter.unusedSimpArgs false
namespace Go.Proofs.YtijidmcblpgfkaaDoor
open Go.RowKit

noncomputable def wei_O (v : Int) : Out := ⟨.sv (.one (.val false (.int .i64 v))), [], 39, []⟩
noncomputable def wei_rd (out : Out) : Option (Int) := some (rI (rvC out.v 0 0))
noncomputable def wei_c13803727 (x1_2 : List (List Ct)) (x2 x3 x6 : Int) : Int := nea_v (rd x1_2 x2.toNat 0).int (rd x1_2 x2.toNat 1).int (rd x1_2 x2.toNat 2).int (rd x1_2 x3.toNat 0).int (rd x1_2 x3.toNat 1).int (rd x1_2 x3.toNat 2).int x6
noncomputable def wei_res (gT x0_3 x0_4 x0_6 x1_2 : List (List Ct)) (x2 x3 x4 x5 x6 : Int) : Option (Int) := bif (decide (((0 : Int) ≤ if IntKind.i64.wrap ((0 : Int) - x4) > x4 then IntKind.i64.wrap ((0 : Int) - x4) else x4) ∧ (if IntKind.i64.wrap ((0 : Int) - x4) > x4 then IntKind.i64.wrap ((0 : Int) - x4) else x4) < (↑3 : Int) ∧ (if IntKind.i64.wrap ((0 : Int) - x4) > x4 then IntKind.i64.wrap ((0 : Int) - x4) else x4) < (↑gT.length : Int))) then bif (decide (((0 : Int) ≤ if IntKind.i64.wrap ((0 : Int) - x5) > x5 then IntKind.i64.wrap ((0 : Int) - x5) else x5) ∧ (if IntKind.i64.wrap ((0 : Int) - x5) > x5 then IntKind.i64.wrap ((0 : Int) - x5) else x5) < (↑3 : Int) ∧ (if IntKind.i64.wrap ((0 : Int) - x5) > x5 then IntKind.i64.wrap ((0 : Int) - x5) else x5) < (↑gT.length : Int))) then bif (bif x2 != x3 then likP x0_3 x0_4 x0_6 x2 x3 && (decide ((0 : Int) ≤ x2 ∧ x2 < (↑x1_2.length : Int)) && (decide ((0 : Int) ≤ x3 ∧ x3 < (↑x1_2.length : Int)) && levP x6)) else true) then some (mulS (ofS (IntKind.i64.wrap ((rd gT (if IntKind.i64.wrap ((0 : Int) - x4) > x4 then IntKind.i64.wrap ((0 : Int) - x4) else x4).toNat 0).int * (rd gT (if IntKind.i64.wrap ((0 : Int) - x5) > x5 then IntKind.i64.wrap ((0 : Int) - x5) else x5).toNat 0).int))) (bif x2 != x3 then mulS (lik_v x0_3 x0_4 x0_6 x2 x3) (wei_c13803727 x1_2 x2 x3 x6) else (65536 : Int))) else none else none else none
set_option maxRecDepth 100000 in
theorem wei_tree {gT : List (List Ct)} {x0_0 : Int} {x0_1 : Int} {x0_2 x0_3 x0_4 x0_5 x0_6 x0_7 : List (List Ct)} {x1_0 : Int} {x1_1 : Int} {x1_2 : List (List Ct)} {x2 x3 x4 x5 x6 v : Int} (h : wei_res gT x0_3 x0_4 x0_6 x1_2 x2 x3 x4 x5 x6 = some v) : CallOk Tryd.prog 28 [.sv (.agg [.val false (.int .i64 x0_0), .val false (.int .i64 x0_1), .ext 2, .ext 3, .ext 4, .ext 5, .ext 6, .ext 7]), .sv (.agg [.val false (.int .i64 x1_0), .val false (.int .i64 x1_1), .ext 8]), .sv (.one (.val false (.int .i64 x2))), .sv (.one (.val false (.int .i64 x3))), .sv (.one (.val false (.int .i64 x4))), .sv (.one (.val false (.int .i64 x5))), .sv (.one (.val false (.int .i64 x6)))] [(0, .grid [.int .i64] gT), (1, .tie true 0 0), (2, .grid [.int .i64, .int .i64, .int .i64] x0_2), (3, .grid [.int .i64] x0_3), (4, .grid [.int .i64, .int .i64, .int .i64] x0_4), (5, .grid [.int .i64, .int .i64, .int .i64] x0_5), (6, .grid [.int .i64] x0_6), (7, .grid [.int .i64] x0_7), (8, .grid [.int .i64, .int .i64, .int .i64] x1_2)] 9 (wei_O v) :=
  eng_tree (C := (⟨consLc3, fun _ _ _ => none, fun f => false, noFacts, fun _ => 104⟩ : Cfg Tryd.prog)) noFacts_ok (n := 30) (f := 28) wei_O wei_rd rfl (by kernel_rfl) h

noncomputable def tpo_O (v : Int) : Out := ⟨.sv (.one (.val false (.int .i64 v))), [], 3, []⟩
noncomputable def tpo_rd (out : Out) : Option (Int) := some (rI (rvC out.v 0 0))
noncomputable def tpo_res (x0 : Int) : Option (Int) := bif (decide (x0 < (0 : Int))) then (bif (IntKind.i64.wrap ((0 : Int) - x0) == (0 : Int)) then (some 6) else bif (IntKind.i64.wrap ((0 : Int) - x0) == (1 : Int)) then (some 4) else some 1) else bif (x0 == (0 : Int)) then (some 6) else bif (x0 == (1 : Int)) then (some 4) else some 1
set_option maxRecDepth 100000 in
theorem tpo_tree {x0 : Int} {v : Int} (h : tpo_res x0 = some v) : CallOk Tryd.prog 41 [.sv (.one (.val false (.int .i64 x0)))] [] 0 (tpo_O v) :=
  eng_tree (C := (⟨consLc3, fun _ _ _ => none, fun f => false, noFacts, fun _ => 0⟩ : Cfg Tryd.prog)) noFacts_ok (n := 30) (f := 41) tpo_O tpo_rd rfl (by kernel_rfl) h
end Go.Proofs.YtijidmcblpgfkaaDoor
