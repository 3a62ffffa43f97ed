/- The next bytes of the document's reader. No condition. -/
import Derived.Test.YtcpbiijegbbafaaEngReel5
set_option linter.unusedVariables false
set_option linter.unusedSimpArgs false
namespace Go.Proofs.Ytcpbiijegbbafaa
open Go.RowKit

noncomputable def mrw_L0_S (x0_0 : List (List Ct)) (x0_1 x0_2 x1 : Int) (v : Int × List (List Ct)) : St := ⟨[.o (.ptr 0 0), .o (.q x1), .d, .d, .o (.val true (Value.slice none 0 0)), .o (.ext 4), .o (.q v.1), .o (.ptr 0 0), .o (.ptr 0 0), .o (.ptr 0 2), .o (.q x0_2), .o (.val true (.bool false)), .o (.ptr 0 0), .o (.ptr 0 0), .o (.ptr 0 0), .o (.ext 1), .o (.q (↑x0_0.length : Int)), .o (.ptr 0 0), .o (.ptr 0 0), .o (.ptr 0 1), .o (.q x0_1), .o (.q (IntKind.i64.wrap ((↑x0_0.length : Int) - x0_1))), .o (.q x1), .o (.val true (.bool false)), .d, .d, .d, .d, .d, .d, .d, .d, .d, .d, .d, .d, .d, .d, .d, .d, .d, .d, .d, .d, .d, .d, .d, .d, .d, .d, .d, .d, .d, .d, .d, .d, .d], [(0, .cells [.ext 1, .q x0_1, .q x0_2] 117), (1, .grid ([Sh.int IntKind.u8]) x0_0), (4, .row ([Sh.int IntKind.u8]) 5 v.2)], 5, []⟩
noncomputable def mrw_L0_T (x0_0 : List (List Ct)) (x0_1 x0_2 x1 : Int) (v : Int × List (List Ct)) : Ex × St := ((.exit 0), ⟨(mrw_L0_S x0_0 x0_1 x0_2 x1 v).fr, (mrw_L0_S x0_0 x0_1 x0_2 x1 v).hp, 6, []⟩)
noncomputable def mrw_L0_rd (ex : Ex) (s : St) : Option ((Int × List (List Ct)) ⊕ (Int × List (List Ct))) × List (Nat × Option Nat) := match ex with
  | .normal => (some (.inl (rI (frC s 6 0), rL s (frC s 5 0))), [rnOf 4 (frC s 5 0)])
  | .exit i => bif Nat.beq i 0 then (some (.inr (rI (frC s 6 0), rL s (frC s 5 0))), [(4, some 4)]) else (none, [])
  | _ => (none, [])
noncomputable def mrw_L0_step (x0_0 : List (List Ct)) (x0_1 x0_2 x1 : Int) : (Int × List (List Ct)) → Option ((Int × List (List Ct)) ⊕ (Int × List (List Ct))) := fun v => match v with
  | (vi0, vl0) => bif (decide (vi0 < x1)) then (bif (decide ((0 : Int) ≤ IntKind.i64.wrap (x0_1 + vi0) ∧ IntKind.i64.wrap (x0_1 + vi0) < (↑x0_0.length : Int))) then bif (decide (vl0.length + [[Ct.i (rd x0_0 (IntKind.i64.wrap (x0_1 + vi0)).toNat 0).int]].length ≤ 9223372036854775807 ∧ (vl0.length + [[Ct.i (rd x0_0 (IntKind.i64.wrap (x0_1 + vi0)).toNat 0).int]].length) * 1 ≤ 140737488355328)) then some (.inl (IntKind.i64.wrap (vi0 + (1 : Int)), vl0 ++ [[Ct.i (rd x0_0 (IntKind.i64.wrap (x0_1 + vi0)).toNat 0).int]])) else none else none) else some (.inr (vi0, vl0))
noncomputable def mrw_L0_c : Code := loopC Try.prog 102 0
set_option maxRecDepth 100000 in
theorem mrw_L0_ok (x0_0 : List (List Ct)) (x0_1 x0_2 x1 : Int) : ∀ v, StepOk Try.prog 2 mrw_L0_c (mrw_L0_S x0_0 x0_1 x0_2 x1) (mrw_L0_T x0_0 x0_1 x0_2 x1) v (mrw_L0_step x0_0 x0_1 x0_2 x1 v) := fun v => match v with | (vi0, vl0) => eng_step (C := (⟨consReel5, fun _ _ _ => none, fun f => false, noFacts, fun _ => 0⟩ : Cfg Try.prog)) noFacts_ok (n := 30) (f := 102) mrw_L0_rd (fun _ => rfl) (by kernel_rfl)
noncomputable def mrw_L0_p (x0_0 : List (List Ct)) (x0_1 x0_2 x1 : Int) : Bool := (iter (mrw_L0_step x0_0 x0_1 x0_2 x1) (x1.toNat + 1) (0, [])).isSome
noncomputable def mrw_L0_v (x0_0 : List (List Ct)) (x0_1 x0_2 x1 : Int) : Int × List (List Ct) := loopRes (mrw_L0_step x0_0 x0_1 x0_2 x1) (x1.toNat + 1) (0, [])
noncomputable def mrw_L0_lc (x0_0 : List (List Ct)) (x0_1 x0_2 x1 : Int) : LoopCon Try.prog := loopCon Try.prog 2 mrw_L0_c [(4, none)] (mrw_L0_S x0_0 x0_1 x0_2 x1) (mrw_L0_T x0_0 x0_1 x0_2 x1) 0 (mrw_L0_step x0_0 x0_1 x0_2 x1) (mrw_L0_ok x0_0 x0_1 x0_2 x1) (x1.toNat + 1) (0, []) (mrw_L0_p x0_0 x0_1 x0_2 x1) rfl (mrw_L0_v x0_0 x0_1 x0_2 x1) rfl
noncomputable def mrw_T (x0_0 : List (List Ct)) (x0_1 x0_2 x1 : Int) (v : Int × Int × List (List Ct)) : St := ⟨[.d, .d, .d, .d, .o (.ext 6), .d, .d, .d, .d, .d, .d, .d, .d, .d, .d, .d, .d, .d, .d, .d, .d, .d, .d, .d, .d, .d, .d, .d, .d, .d, .d, .d, .d, .d, .d, .d, .d, .d, .d, .d, .d, .d, .d, .d, .d, .d, .d, .d, .d, .d, .d, .d, .d, .d, .d, .d, .d], [(0, .cells [.ext 1, .q v.1, .q v.2.1] 117), (1, .grid ([Sh.int IntKind.u8]) x0_0), (6, .row ([Sh.int IntKind.u8]) 5 v.2.2)], 7, [0]⟩
noncomputable def mrw_O (v : Int × Int × List (List Ct)) : Out := ⟨.sv (.one (.ext 6)), [(0, .cells [.ext 1, .val false (.int .i64 v.1), .val false (.int .i64 v.2.1)] 117), (6, .row ([Sh.int IntKind.u8]) 5 v.2.2)], 7, [0]⟩
noncomputable def mrw_rd (ex : Ex) (s : St) : Option (Int × Int × List (List Ct)) × List (Nat × Option Nat) := (some (rI (hpC s 0 1), rI (hpC s 0 2), rL s (frC s 4 0)), [rnOf 6 (frC s 4 0)])
noncomputable def mrw_res (x0_0 : List (List Ct)) (x0_1 x0_2 x1 : Int) : Option (Int × Int × List (List Ct)) := bif (x0_2 != (0 : Int)) then (some (x0_1, x0_2, [])) else bif (decide (IntKind.i64.wrap ((↑x0_0.length : Int) - x0_1) < x1)) then (some (x0_1, 9, [])) else bif (mrw_L0_p x0_0 x0_1 x0_2 x1) then some (IntKind.i64.wrap (x0_1 + x1), x0_2, (mrw_L0_v x0_0 x0_1 x0_2 x1).snd) else none
set_option maxRecDepth 100000 in
theorem mrw_tree {x0_0 : List (List Ct)} {x0_1 x0_2 x1 : Int} {v : Int × Int × List (List Ct)} (h : mrw_res x0_0 x0_1 x0_2 x1 = some v) : CallOk Try.prog 102 [.sv (.one (.ptr 0 0)), .sv (.one (.val false (.int .i64 x1)))] [(0, .cells [.ext 1, .val false (.int .i64 x0_1), .val false (.int .i64 x0_2)] 117), (1, .grid [.int .u8] x0_0)] 2 (mrw_O v) :=
  eng_body (C := (⟨consReel5, fun f id nx => bif Nat.beq f 102 then (bif Nat.beq id 0 then some (mrw_L0_lc x0_0 x0_1 x0_2 x1) else none) else none, fun f => false, noFacts, fun _ => 0⟩ : Cfg Try.prog)) noFacts_ok (n := 30) (f := 102) (mrw_T x0_0 x0_1 x0_2 x1) mrw_O mrw_rd rfl (fun r => rfl) (by kernel_rfl) h
noncomputable def mrw_v (x0_0 : List (List Ct)) (x0_1 x0_2 x1 : Int) : Int × Int × List (List Ct) := (mrw_res x0_0 x0_1 x0_2 x1).getD default
theorem mrw_spec (x0_0 : List (List Ct)) (x0_1 x0_2 x1 : Int) (h : ((mrw_res x0_0 x0_1 x0_2 x1).isSome) = true) : mrw_res x0_0 x0_1 x0_2 x1 = some (mrw_v x0_0 x0_1 x0_2 x1) := opt_get h
noncomputable def mrw_as : List ASh := [.ptr 117 [.grid [.int .u8], .int .i64, .int .i64], .one (.int .i64)]
noncomputable def mrw_con : Con Try.prog := conS Try.prog 102 mrw_as (fun x => some ((mrw_res (x.getD 0 (.i 0)).rows (x.getD 1 (.i 0)).int (x.getD 2 (.i 0)).int (x.getD 3 (.i 0)).int).isSome)) (fun x => mrw_O (mrw_v (x.getD 0 (.i 0)).rows (x.getD 1 (.i 0)).int (x.getD 2 (.i 0)).int (x.getD 3 (.i 0)).int))
  (fun x h => ⟨by kernel_rfl, by kernel_rfl, Eq.mp (by kernel_rfl) (@mrw_tree ((x.getD 0 (.i 0)).rows) ((x.getD 1 (.i 0)).int) ((x.getD 2 (.i 0)).int) ((x.getD 3 (.i 0)).int) _ (mrw_spec ((x.getD 0 (.i 0)).rows) ((x.getD 1 (.i 0)).int) ((x.getD 2 (.i 0)).int) ((x.getD 3 (.i 0)).int) (h _ rfl)))⟩)
noncomputable def consReel6 : List (Con Try.prog) := [mrw_con] ++ consReel5
end Go.Proofs.Ytcpbiijegbbafaa
