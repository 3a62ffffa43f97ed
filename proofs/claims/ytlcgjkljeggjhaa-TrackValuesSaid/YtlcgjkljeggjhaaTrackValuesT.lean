/- The law TrackValues, its tree. No condition. -/
import Derived.Test.YtlcgjkljeggjhaaEngTrack3
set_option linter.unusedVariables false
set_option linter.unusedSimpArgs false
namespace Go.Proofs.Ytlcgjkljeggjhaa
open Go.RowKit

noncomputable def ltv_O (v : Bool) : Out := ⟨.sv (.one (.val false (.bool v))), [], 145, []⟩
noncomputable def ltv_rd (out : Out) : Option (Bool) := some (rB (rvC out.v 0 0))
noncomputable def ltv_res (x0_0 : Int) (x0_1 : List (List Ct)) (x1 : Int) : Option (Bool) := bif (decide ((↑x0_1.length : Int) > (60 : Int))) then (some true) else bif ((tky_res x0_1).isSome) then bif ((trt_res x0_0 (tky_v x0_1)).isSome) then bif ((rrt_res x0_0 x0_1).isSome) then bif (!trt_v x0_0 (tky_v x0_1) == rrt_v x0_0 x0_1) then (some false) else bif ((rrt_res x0_0 x0_1).isSome) then bif (rrt_v x0_0 x0_1) then (bif ((tpl_res x0_0 (tky_v x0_1) x1).isSome) then bif ((rpl_res x0_0 x0_1 x1).isSome) then bif (tpl_v x0_0 (tky_v x0_1) x1 != rpl_v x0_0 x0_1 x1) then (some false) else bif ((tat_res x0_0 (tky_v x0_1) x1).isSome) then bif ((rat_res x0_0 x0_1 x1).isSome) then some ((tat_v x0_0 (tky_v x0_1) x1).fst == (rat_v x0_0 x0_1 x1).fst && ((tat_v x0_0 (tky_v x0_1) x1).snd.fst == (rat_v x0_0 x0_1 x1).snd.fst && ((tat_v x0_0 (tky_v x0_1) x1).snd.snd == (rat_v x0_0 x0_1 x1).snd.snd && true))) else none else none else none else none) else bif ((tat_res x0_0 (tky_v x0_1) x1).isSome) then bif ((rat_res x0_0 x0_1 x1).isSome) then some ((tat_v x0_0 (tky_v x0_1) x1).fst == (rat_v x0_0 x0_1 x1).fst && ((tat_v x0_0 (tky_v x0_1) x1).snd.fst == (rat_v x0_0 x0_1 x1).snd.fst && ((tat_v x0_0 (tky_v x0_1) x1).snd.snd == (rat_v x0_0 x0_1 x1).snd.snd && true))) else none else none else none else none else none else none
set_option maxRecDepth 100000 in
theorem ltv_tree {x0_0 : Int} {x0_1 : List (List Ct)} {x1 : Int} {v : Bool} (h : ltv_res x0_0 x0_1 x1 = some v) : CallOk Try.prog 3 [.sv (.agg [.val false (.int .i64 x0_0), .ext 0]), .sv (.one (.val false (.int .i64 x1)))] [(0, .grid [.int .i64, .int .i64, .int .i64, .int .i64] x0_1)] 1 (ltv_O v) :=
  eng_tree (C := (⟨consTrack3, fun _ _ _ => none, fun f => false, noFacts, fun _ => 0⟩ : Cfg Try.prog)) noFacts_ok (n := 30) (f := 3) ltv_O ltv_rd rfl (by kernel_rfl) h
end Go.Proofs.Ytlcgjkljeggjhaa
