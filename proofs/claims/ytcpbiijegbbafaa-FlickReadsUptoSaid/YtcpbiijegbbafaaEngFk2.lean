/- A frame. No condition. -/
import Derived.Test.YtcpbiijegbbafaaEngFk1
set_option linter.unusedVariables false
set_option linter.unusedSimpArgs false
namespace Go.Proofs.Ytcpbiijegbbafaa
open Go.RowKit

noncomputable def frn_O (v : List (List Ct)) : Out := ⟨.sv (.agg [.val true (.int .i64 0), .ext 2]), [(2, .grid ([Sh.int IntKind.u8]) v)], 5, []⟩
noncomputable def frn_rd (out : Out) : Option (List (List Ct)) := some (hpL' out.up 2)
noncomputable def frn_res (x0 : List (List Ct)) : Option (List (List Ct)) := bif (pprs_L0_p x0) then some (pprs_v x0) else none
set_option maxRecDepth 100000 in
theorem frn_tree {x0 : List (List Ct)} {v : List (List Ct)} (h : frn_res x0 = some v) : CallOk Try.prog 81 [.sv (.one (.ext 0)), .sv (.one (.val true (.slice none 0 0)))] [(0, .grid [.int .u8] x0)] 1 (frn_O v) :=
  eng_tree (C := (⟨consFk1, fun _ _ _ => none, fun f => false, noFacts, fun _ => 0⟩ : Cfg Try.prog)) noFacts_ok (n := 30) (f := 81) frn_O frn_rd rfl (by kernel_rfl) h
noncomputable def frn_v (x0 : List (List Ct)) : List (List Ct) := (frn_res x0).getD default
theorem frn_spec (x0 : List (List Ct)) (h : ((frn_res x0).isSome) = true) : frn_res x0 = some (frn_v x0) := opt_get h
noncomputable def frn_as : List ASh := [.one (.grid [.int .u8]), .one (.nil)]
noncomputable def frn_con : Con Try.prog := conS Try.prog 81 frn_as (fun x => some ((frn_res (x.getD 0 (.i 0)).rows).isSome)) (fun x => frn_O (frn_v (x.getD 0 (.i 0)).rows))
  (fun x h => ⟨by kernel_rfl, by kernel_rfl, Eq.mp (by kernel_rfl) (@frn_tree ((x.getD 0 (.i 0)).rows) _ (frn_spec ((x.getD 0 (.i 0)).rows) (h _ rfl)))⟩)

noncomputable def frg_T (x0 : List (List Ct)) (x1 : List (List Ct)) (v : Int × List (List Ct)) : St := ⟨[.d, .d, .d, .d, .o (.ptr 2 0), .d, .d, .d, .d, .d, .d, .d, .d, .d, .d, .d, .d, .d, .d, .d, .d, .d, .d, .d, .d, .d], [(2, .cells [.q v.1, .ext 9] 168), (9, .grid ([Sh.int IntKind.u8]) v.2)], 12, []⟩
noncomputable def frg_O (v : Int × List (List Ct)) : Out := ⟨.sv (.agg [.val false (.int .i64 v.1), .ext 9]), [(9, .grid ([Sh.int IntKind.u8]) v.2)], 12, []⟩
noncomputable def frg_rd (ex : Ex) (s : St) : Option (Int × List (List Ct)) × List (Nat × Option Nat) := (some (rI (hpC s 2 0), rL s (hpC s 2 1)), [(2, some 2), rnOf 9 (hpC s 2 1)])
noncomputable def frg_c90315573 (x0 : List (List Ct)) (x1 : List (List Ct)) : List (List Ct) := pprs_v (acr_v x0 x1)
noncomputable def frg_res (x0 : List (List Ct)) (x1 : List (List Ct)) : Option (Int × List (List Ct)) := bif (pprs_L0_p x0) then bif (decide (0 < x1.length)) then bif ((acr_res x0 x1).isSome) then bif (pprs_L0_p (acr_v x0 x1)) then bif (decide ((↑(frg_c90315573 x0 x1).length : Int) < (↑(pprs_v x0).length : Int))) then (some (1, frg_c90315573 x0 x1)) else some (0, pprs_v x0) else none else none else none else none
set_option maxRecDepth 100000 in
theorem frg_tree {x0 : List (List Ct)} {x1 : List (List Ct)} {v : Int × List (List Ct)} (h : frg_res x0 x1 = some v) : CallOk Try.prog 81 [.sv (.one (.ext 0)), .sv (.one (.ext 1))] [(0, .grid [.int .u8] x0), (1, .grid [.int .u8] x1)] 2 (frg_O v) :=
  eng_body (C := (⟨consFk1, fun _ _ _ => none, fun f => false, noFacts, fun _ => 0⟩ : Cfg Try.prog)) noFacts_ok (n := 30) (f := 81) (frg_T x0 x1) frg_O frg_rd rfl (fun r => rfl) (by kernel_rfl) h
noncomputable def frg_v (x0 : List (List Ct)) (x1 : List (List Ct)) : Int × List (List Ct) := (frg_res x0 x1).getD default
theorem frg_spec (x0 : List (List Ct)) (x1 : List (List Ct)) (h : ((frg_res x0 x1).isSome) = true) : frg_res x0 x1 = some (frg_v x0 x1) := opt_get h
noncomputable def frg_as : List ASh := [.one (.grid [.int .u8]), .one (.grid [.int .u8])]
noncomputable def frg_con : Con Try.prog := conS Try.prog 81 frg_as (fun x => some ((frg_res (x.getD 0 (.i 0)).rows (x.getD 1 (.i 0)).rows).isSome)) (fun x => frg_O (frg_v (x.getD 0 (.i 0)).rows (x.getD 1 (.i 0)).rows))
  (fun x h => ⟨by kernel_rfl, by kernel_rfl, Eq.mp (by kernel_rfl) (@frg_tree ((x.getD 0 (.i 0)).rows) ((x.getD 1 (.i 0)).rows) _ (frg_spec ((x.getD 0 (.i 0)).rows) ((x.getD 1 (.i 0)).rows) (h _ rfl)))⟩)

theorem frn_f : frn_con.f = 81 := rfl
theorem frg_f : frg_con.f = 81 := rfl
noncomputable def consFk2 : List (Con Try.prog) := [Con.or frn_con frg_con (frg_f.trans frn_f.symm)] ++ consFk1
end Go.Proofs.Ytcpbiijegbbafaa
