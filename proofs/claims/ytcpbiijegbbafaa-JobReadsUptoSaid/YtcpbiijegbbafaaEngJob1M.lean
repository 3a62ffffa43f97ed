/- How many there are, as the document has it. No condition. -/
import Derived.Test.YtcpbiijegbbafaaEngReel9
set_option linter.unusedVariables false
set_option linter.unusedSimpArgs false
namespace Go.Proofs.Ytcpbiijegbbafaa
open Go.RowKit

noncomputable def rmn_T (x0_0 : List (List Ct)) (x0_1 x0_2 x1 x2 : Int) (v : Int × Int × Int) : St := ⟨[.d, .d, .d, .d, .d, .d, .o (.q v.1), .d, .d, .d, .d, .d, .d, .d, .d, .d, .d, .d, .d, .d, .d, .d, .d, .d], [(0, .cells [.ext 1, .q v.2.1, .q v.2.2] 117), (1, .grid ([Sh.int IntKind.u8]) x0_0)], 10, [0]⟩
noncomputable def rmn_O (v : Int × Int × Int) : Out := ⟨.sv (.one (.val false (.int .i64 v.1))), [(0, .cells [.ext 1, .val false (.int .i64 v.2.1), .val false (.int .i64 v.2.2)] 117)], 10, [0]⟩
noncomputable def rmn_rd (ex : Ex) (s : St) : Option (Int × Int × Int) × List (Nat × Option Nat) := (some (rI (frC s 6 0), rI (hpC s 0 1), rI (hpC s 0 2)), [])
noncomputable def rmn_c39547249 (x0_0 : List (List Ct)) (x0_1 : Int) (x0_2 : Int) : Int × Int × Int := mnu_v x0_0 x0_1 x0_2 (1 : Int)
noncomputable def rmn_res (x0_0 : List (List Ct)) (x0_1 x0_2 x1 x2 : Int) : Option (Int × Int × Int) := bif ((mnu_res x0_0 x0_1 x0_2 (1 : Int)).isSome) then bif (decide (IntKind.i64.wrap (rmn_c39547249 x0_0 x0_1 x0_2).fst > x1)) then (bif ((rmn_c39547249 x0_0 x0_1 x0_2).snd.snd == (0 : Int)) then (some (0, (rmn_c39547249 x0_0 x0_1 x0_2).snd.fst, x2)) else some (0, (rmn_c39547249 x0_0 x0_1 x0_2).snd.fst, (rmn_c39547249 x0_0 x0_1 x0_2).snd.snd)) else some (IntKind.i64.wrap (rmn_c39547249 x0_0 x0_1 x0_2).fst, (rmn_c39547249 x0_0 x0_1 x0_2).snd.fst, (rmn_c39547249 x0_0 x0_1 x0_2).snd.snd) else none
set_option maxRecDepth 100000 in
theorem rmn_tree {x0_0 : List (List Ct)} {x0_1 x0_2 x1 x2 : Int} {v : Int × Int × Int} (h : rmn_res x0_0 x0_1 x0_2 x1 x2 = some v) : CallOk Try.prog 46 [.sv (.one (.ptr 0 0)), .sv (.one (.val false (.int .i64 x1))), .sv (.one (.val false (.int .i64 x2)))] [(0, .cells [.ext 1, .val false (.int .i64 x0_1), .val false (.int .i64 x0_2)] 117), (1, .grid [.int .u8] x0_0)] 2 (rmn_O v) :=
  eng_body (C := (⟨consReel9, fun _ _ _ => none, fun f => false, noFacts, fun _ => 0⟩ : Cfg Try.prog)) noFacts_ok (n := 30) (f := 46) (rmn_T x0_0 x0_1 x0_2 x1 x2) rmn_O rmn_rd rfl (fun r => rfl) (by kernel_rfl) h
noncomputable def rmn_v (x0_0 : List (List Ct)) (x0_1 x0_2 x1 x2 : Int) : Int × Int × Int := (rmn_res x0_0 x0_1 x0_2 x1 x2).getD default
theorem rmn_spec (x0_0 : List (List Ct)) (x0_1 x0_2 x1 x2 : Int) (h : ((rmn_res x0_0 x0_1 x0_2 x1 x2).isSome) = true) : rmn_res x0_0 x0_1 x0_2 x1 x2 = some (rmn_v x0_0 x0_1 x0_2 x1 x2) := opt_get h
noncomputable def rmn_as : List ASh := [.ptr 117 [.grid [.int .u8], .int .i64, .int .i64], .one (.int .i64), .one (.int .i64)]
noncomputable def rmn_con : Con Try.prog := conS Try.prog 46 rmn_as (fun x => some ((rmn_res (x.getD 0 (.i 0)).rows (x.getD 1 (.i 0)).int (x.getD 2 (.i 0)).int (x.getD 3 (.i 0)).int (x.getD 4 (.i 0)).int).isSome)) (fun x => rmn_O (rmn_v (x.getD 0 (.i 0)).rows (x.getD 1 (.i 0)).int (x.getD 2 (.i 0)).int (x.getD 3 (.i 0)).int (x.getD 4 (.i 0)).int))
  (fun x h => ⟨by kernel_rfl, by kernel_rfl, Eq.mp (by kernel_rfl) (@rmn_tree ((x.getD 0 (.i 0)).rows) ((x.getD 1 (.i 0)).int) ((x.getD 2 (.i 0)).int) ((x.getD 3 (.i 0)).int) ((x.getD 4 (.i 0)).int) _ (rmn_spec ((x.getD 0 (.i 0)).rows) ((x.getD 1 (.i 0)).int) ((x.getD 2 (.i 0)).int) ((x.getD 3 (.i 0)).int) ((x.getD 4 (.i 0)).int) (h _ rfl)))⟩)
noncomputable def consJob1M : List (Con Try.prog) := [rmn_con] ++ consReel9
end Go.Proofs.Ytcpbiijegbbafaa
