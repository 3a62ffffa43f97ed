/- The next bytes of a reader. No condition. -/
import Derived.Test.YtcpbiijegbbafaaEngReelV
set_option linter.unusedVariables false
set_option linter.unusedSimpArgs false
namespace Go.Proofs.Ytcpbiijegbbafaa
open Go.RowKit

noncomputable def rtk_T (x0_0 : List (List Ct)) (x0_1 : Int) (x1 : Int) (v : Int × List (List Ct) × List (List Ct)) : St := ⟨[.d, .d, .d, .d, .o (.ext 7), .d, .d, .d, .d, .d, .d, .d, .d, .d, .d, .d, .d, .d, .d, .d, .d, .d, .d, .d, .d, .d, .d, .d, .d, .d, .d, .d, .d, .d, .d, .d, .d, .d, .d, .d], [(0, .cells [.ext 6, .q v.1] 183), (6, .grid ([Sh.int IntKind.u8]) v.2.1), (7, .grid ([Sh.int IntKind.u8]) v.2.2)], 8, [0]⟩
noncomputable def rtk_O (v : Int × List (List Ct) × List (List Ct)) : Out := ⟨.sv (.one (.ext 7)), [(6, .grid ([Sh.int IntKind.u8]) v.2.1), (0, .cells [.ext 6, .val false (.int .i64 v.1)] 183), (7, .grid ([Sh.int IntKind.u8]) v.2.2)], 8, [0]⟩
noncomputable def rtk_rd (ex : Ex) (s : St) : Option (Int × List (List Ct) × List (List Ct)) × List (Nat × Option Nat) := (some (rI (hpC s 0 1), rL s (hpC s 0 0), rL s (frC s 4 0)), [rnOf 6 (hpC s 0 0), rnOf 7 (frC s 4 0)])
noncomputable def rtk_res (x0_0 : List (List Ct)) (x0_1 : Int) (x1 : Int) : Option (Int × List (List Ct) × List (List Ct)) := bif (x0_1 != (0 : Int)) then (some (x0_1, x0_0, [])) else bif (decide (x1 > (↑x0_0.length : Int))) then (bif (x0_1 == (0 : Int)) then (some (9, [], [])) else some (x0_1, x0_0, [])) else bif (decide ((0 : Int) ≤ (0 : Int) ∧ (0 : Int) ≤ x1 ∧ x1 ≤ (↑x0_0.length : Int))) then bif (decide ((0 : Int) ≤ x1 ∧ x1 ≤ (↑x0_0.length : Int) ∧ (↑x0_0.length : Int) ≤ (↑x0_0.length : Int))) then some (x0_1, partOf x0_0 x1 (↑x0_0.length : Int), partOf x0_0 (0 : Int) x1) else none else none
set_option maxRecDepth 100000 in
theorem rtk_tree {x0_0 : List (List Ct)} {x0_1 : Int} {x1 : Int} {v : Int × List (List Ct) × List (List Ct)} (h : rtk_res x0_0 x0_1 x1 = some v) : CallOk Try.prog 127 [.sv (.one (.ptr 0 0)), .sv (.one (.val false (.int .i64 x1)))] [(0, .cells [.ext 1, .val false (.int .i64 x0_1)] 183), (1, .grid [.int .u8] x0_0)] 2 (rtk_O v) :=
  eng_body (C := (⟨consReelV, fun _ _ _ => none, fun f => false, noFacts, fun _ => 0⟩ : Cfg Try.prog)) noFacts_ok (n := 30) (f := 127) (rtk_T x0_0 x0_1 x1) rtk_O rtk_rd rfl (fun r => rfl) (by kernel_rfl) h
noncomputable def rtk_v (x0_0 : List (List Ct)) (x0_1 : Int) (x1 : Int) : Int × List (List Ct) × List (List Ct) := (rtk_res x0_0 x0_1 x1).getD default
theorem rtk_spec (x0_0 : List (List Ct)) (x0_1 : Int) (x1 : Int) (h : ((rtk_res x0_0 x0_1 x1).isSome) = true) : rtk_res x0_0 x0_1 x1 = some (rtk_v x0_0 x0_1 x1) := opt_get h
noncomputable def rtk_as : List ASh := [.ptr 183 [.grid [.int .u8], .int .i64], .one (.int .i64)]
noncomputable def rtk_con : Con Try.prog := conS Try.prog 127 rtk_as (fun x => some ((rtk_res (x.getD 0 (.i 0)).rows (x.getD 1 (.i 0)).int (x.getD 2 (.i 0)).int).isSome)) (fun x => rtk_O (rtk_v (x.getD 0 (.i 0)).rows (x.getD 1 (.i 0)).int (x.getD 2 (.i 0)).int))
  (fun x h => ⟨by kernel_rfl, by kernel_rfl, Eq.mp (by kernel_rfl) (@rtk_tree ((x.getD 0 (.i 0)).rows) ((x.getD 1 (.i 0)).int) ((x.getD 2 (.i 0)).int) _ (rtk_spec ((x.getD 0 (.i 0)).rows) ((x.getD 1 (.i 0)).int) ((x.getD 2 (.i 0)).int) (h _ rfl)))⟩)
noncomputable def consReel1 : List (Con Try.prog) := [rtk_con] ++ consReelV
end Go.Proofs.Ytcpbiijegbbafaa
