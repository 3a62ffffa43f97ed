/- EngReel6, EngReel7, EngReel8, EngReel9, EngReel8B, laid together. No condition. -/
import Derived.Test.YtcpbiijegbbafaaReelA
/- The next bytes of the document's reader. No condition. -/
set_option linter.unusedVariables false
set_option linter.unusedSimpArgs false
namespace Go.Proofs.Ytcpbiijegbbafaa
open Go.RowKit

noncomputable def mrw_L0_S (x0_0 : List (List Ct)) (x0_1 x0_2 x1 : Int) (v : Int × List (List Ct)) : St := ⟨[.o (.ptr 0 0), .o (.q x1), .d, .d, .o (.val true (Value.slice none 0 0)), .o (.ext 4), .o (.q v.1), .o (.ptr 0 0), .o (.ptr 0 0), .o (.ptr 0 2), .o (.q x0_2), .o (.val true (.bool false)), .o (.ptr 0 0), .o (.ptr 0 0), .o (.ptr 0 0), .o (.ext 1), .o (.q (↑x0_0.length : Int)), .o (.ptr 0 0), .o (.ptr 0 0), .o (.ptr 0 1), .o (.q x0_1), .o (.q (IntKind.i64.wrap ((↑x0_0.length : Int) - x0_1))), .o (.q x1), .o (.val true (.bool false)), .d, .d, .d, .d, .d, .d, .d, .d, .d, .d, .d, .d, .d, .d, .d, .d, .d, .d, .d, .d, .d, .d, .d, .d, .d, .d, .d, .d, .d, .d, .d, .d, .d], [(0, .cells [.ext 1, .q x0_1, .q x0_2] 117), (1, .grid ([Sh.int IntKind.u8]) x0_0), (4, .row ([Sh.int IntKind.u8]) 5 v.2)], 5, []⟩
noncomputable def mrw_L0_T (x0_0 : List (List Ct)) (x0_1 x0_2 x1 : Int) (v : Int × List (List Ct)) : Ex × St := ((.exit 0), ⟨(mrw_L0_S x0_0 x0_1 x0_2 x1 v).fr, (mrw_L0_S x0_0 x0_1 x0_2 x1 v).hp, 6, []⟩)
noncomputable def mrw_L0_rd (ex : Ex) (s : St) : Option ((Int × List (List Ct)) ⊕ (Int × List (List Ct))) × List (Nat × Option Nat) := match ex with
  | .normal => (some (.inl (rI (frC s 6 0), rL s (frC s 5 0))), [rnOf 4 (frC s 5 0)])
  | .exit i => bif Nat.beq i 0 then (some (.inr (rI (frC s 6 0), rL s (frC s 5 0))), [(4, some 4)]) else (none, [])
  | _ => (none, [])
noncomputable def mrw_L0_step (x0_0 : List (List Ct)) (x0_1 x0_2 x1 : Int) : (Int × List (List Ct)) → Option ((Int × List (List Ct)) ⊕ (Int × List (List Ct))) := fun v => match v with
  | (vi0, vl0) => bif (decide (vi0 < x1)) then (bif (decide ((0 : Int) ≤ IntKind.i64.wrap (x0_1 + vi0) ∧ IntKind.i64.wrap (x0_1 + vi0) < (↑x0_0.length : Int))) then bif (decide (vl0.length + [[Ct.i (rd x0_0 (IntKind.i64.wrap (x0_1 + vi0)).toNat 0).int]].length ≤ 9223372036854775807 ∧ (vl0.length + [[Ct.i (rd x0_0 (IntKind.i64.wrap (x0_1 + vi0)).toNat 0).int]].length) * 1 ≤ 140737488355328)) then some (.inl (IntKind.i64.wrap (vi0 + (1 : Int)), vl0 ++ [[Ct.i (rd x0_0 (IntKind.i64.wrap (x0_1 + vi0)).toNat 0).int]])) else none else none) else some (.inr (vi0, vl0))
noncomputable def mrw_L0_c : Code := loopC Try.prog 102 0
set_option maxRecDepth 100000 in
theorem mrw_L0_ok (x0_0 : List (List Ct)) (x0_1 x0_2 x1 : Int) : ∀ v, StepOk Try.prog 2 mrw_L0_c (mrw_L0_S x0_0 x0_1 x0_2 x1) (mrw_L0_T x0_0 x0_1 x0_2 x1) v (mrw_L0_step x0_0 x0_1 x0_2 x1 v) := fun v => match v with | (vi0, vl0) => eng_step (C := (⟨consReel5, fun _ _ _ => none, fun f => false, noFacts, fun _ => 0⟩ : Cfg Try.prog)) noFacts_ok (n := 30) (f := 102) mrw_L0_rd (fun _ => rfl) (by kernel_rfl)
noncomputable def mrw_L0_p (x0_0 : List (List Ct)) (x0_1 x0_2 x1 : Int) : Bool := (iter (mrw_L0_step x0_0 x0_1 x0_2 x1) (x1.toNat + 1) (0, [])).isSome
noncomputable def mrw_L0_v (x0_0 : List (List Ct)) (x0_1 x0_2 x1 : Int) : Int × List (List Ct) := loopRes (mrw_L0_step x0_0 x0_1 x0_2 x1) (x1.toNat + 1) (0, [])
noncomputable def mrw_L0_lc (x0_0 : List (List Ct)) (x0_1 x0_2 x1 : Int) : LoopCon Try.prog := loopCon Try.prog 2 mrw_L0_c [(4, none)] (mrw_L0_S x0_0 x0_1 x0_2 x1) (mrw_L0_T x0_0 x0_1 x0_2 x1) 0 (mrw_L0_step x0_0 x0_1 x0_2 x1) (mrw_L0_ok x0_0 x0_1 x0_2 x1) (x1.toNat + 1) (0, []) (mrw_L0_p x0_0 x0_1 x0_2 x1) rfl (mrw_L0_v x0_0 x0_1 x0_2 x1) rfl
noncomputable def mrw_T (x0_0 : List (List Ct)) (x0_1 x0_2 x1 : Int) (v : Int × Int × List (List Ct)) : St := ⟨[.d, .d, .d, .d, .o (.ext 6), .d, .d, .d, .d, .d, .d, .d, .d, .d, .d, .d, .d, .d, .d, .d, .d, .d, .d, .d, .d, .d, .d, .d, .d, .d, .d, .d, .d, .d, .d, .d, .d, .d, .d, .d, .d, .d, .d, .d, .d, .d, .d, .d, .d, .d, .d, .d, .d, .d, .d, .d, .d], [(0, .cells [.ext 1, .q v.1, .q v.2.1] 117), (1, .grid ([Sh.int IntKind.u8]) x0_0), (6, .row ([Sh.int IntKind.u8]) 5 v.2.2)], 7, [0]⟩
noncomputable def mrw_O (v : Int × Int × List (List Ct)) : Out := ⟨.sv (.one (.ext 6)), [(0, .cells [.ext 1, .val false (.int .i64 v.1), .val false (.int .i64 v.2.1)] 117), (6, .row ([Sh.int IntKind.u8]) 5 v.2.2)], 7, [0]⟩
noncomputable def mrw_rd (ex : Ex) (s : St) : Option (Int × Int × List (List Ct)) × List (Nat × Option Nat) := (some (rI (hpC s 0 1), rI (hpC s 0 2), rL s (frC s 4 0)), [rnOf 6 (frC s 4 0)])
noncomputable def mrw_res (x0_0 : List (List Ct)) (x0_1 x0_2 x1 : Int) : Option (Int × Int × List (List Ct)) := bif (x0_2 != (0 : Int)) then (some (x0_1, x0_2, [])) else bif (decide (IntKind.i64.wrap ((↑x0_0.length : Int) - x0_1) < x1)) then (some (x0_1, 9, [])) else bif (mrw_L0_p x0_0 x0_1 x0_2 x1) then some (IntKind.i64.wrap (x0_1 + x1), x0_2, (mrw_L0_v x0_0 x0_1 x0_2 x1).snd) else none
set_option maxRecDepth 100000 in
theorem mrw_tree {x0_0 : List (List Ct)} {x0_1 x0_2 x1 : Int} {v : Int × Int × List (List Ct)} (h : mrw_res x0_0 x0_1 x0_2 x1 = some v) : CallOk Try.prog 102 [.sv (.one (.ptr 0 0)), .sv (.one (.val false (.int .i64 x1)))] [(0, .cells [.ext 1, .val false (.int .i64 x0_1), .val false (.int .i64 x0_2)] 117), (1, .grid [.int .u8] x0_0)] 2 (mrw_O v) :=
  eng_body (C := (⟨consReel5, fun f id nx => bif Nat.beq f 102 then (bif Nat.beq id 0 then some (mrw_L0_lc x0_0 x0_1 x0_2 x1) else none) else none, fun f => false, noFacts, fun _ => 0⟩ : Cfg Try.prog)) noFacts_ok (n := 30) (f := 102) (mrw_T x0_0 x0_1 x0_2 x1) mrw_O mrw_rd rfl (fun r => rfl) (by kernel_rfl) h
noncomputable def mrw_v (x0_0 : List (List Ct)) (x0_1 x0_2 x1 : Int) : Int × Int × List (List Ct) := (mrw_res x0_0 x0_1 x0_2 x1).getD default
theorem mrw_spec (x0_0 : List (List Ct)) (x0_1 x0_2 x1 : Int) (h : ((mrw_res x0_0 x0_1 x0_2 x1).isSome) = true) : mrw_res x0_0 x0_1 x0_2 x1 = some (mrw_v x0_0 x0_1 x0_2 x1) := opt_get h
noncomputable def mrw_as : List ASh := [.ptr 117 [.grid [.int .u8], .int .i64, .int .i64], .one (.int .i64)]
noncomputable def mrw_con : Con Try.prog := conS Try.prog 102 mrw_as (fun x => some ((mrw_res (x.getD 0 (.i 0)).rows (x.getD 1 (.i 0)).int (x.getD 2 (.i 0)).int (x.getD 3 (.i 0)).int).isSome)) (fun x => mrw_O (mrw_v (x.getD 0 (.i 0)).rows (x.getD 1 (.i 0)).int (x.getD 2 (.i 0)).int (x.getD 3 (.i 0)).int))
  (fun x h => ⟨by kernel_rfl, by kernel_rfl, Eq.mp (by kernel_rfl) (@mrw_tree ((x.getD 0 (.i 0)).rows) ((x.getD 1 (.i 0)).int) ((x.getD 2 (.i 0)).int) ((x.getD 3 (.i 0)).int) _ (mrw_spec ((x.getD 0 (.i 0)).rows) ((x.getD 1 (.i 0)).int) ((x.getD 2 (.i 0)).int) ((x.getD 3 (.i 0)).int) (h _ rfl)))⟩)
noncomputable def consReel6 : List (Con Try.prog) := [mrw_con] ++ consReel5
end Go.Proofs.Ytcpbiijegbbafaa

/- The next number of the document's reader. No condition. -/
set_option linter.unusedVariables false
set_option linter.unusedSimpArgs false
namespace Go.Proofs.Ytcpbiijegbbafaa
open Go.RowKit

noncomputable def mnu_L0_S (x0_0 : List (List Ct)) (x0_1 x0_2 x1 : Int) (v : Int × Int) : St := ⟨[.o (.ptr 0 0), .o (.q x1), .d, .d, .o (.val true (.int .u64 0)), .o (.ext 6), .o (.val false (.int .u64 v.1)), .o (.q v.2), .o (.ptr 0 0), .o (.q x1), .o (.ext 6), .o (.ext 6), .o (.q (↑(mrw_v x0_0 x0_1 x0_2 x1).snd.snd.length : Int)), .o (.q (IntKind.i64.wrap ((↑(mrw_v x0_0 x0_1 x0_2 x1).snd.snd.length : Int) - (1 : Int)))), .d, .d, .d, .d, .d, .d, .d, .d, .d, .d, .d, .d, .d], [(0, .cells [.ext 1, .q ((mrw_v x0_0 x0_1 x0_2 x1).fst), .q ((mrw_v x0_0 x0_1 x0_2 x1).snd.fst)] 117), (1, .grid ([Sh.int IntKind.u8]) x0_0), (6, .row ([Sh.int IntKind.u8]) 5 ((mrw_v x0_0 x0_1 x0_2 x1).snd.snd))], 7, [0]⟩
noncomputable def mnu_L0_T (x0_0 : List (List Ct)) (x0_1 x0_2 x1 : Int) (v : Int × Int) : Ex × St := ((.exit 0), ⟨(mnu_L0_S x0_0 x0_1 x0_2 x1 v).fr, (mnu_L0_S x0_0 x0_1 x0_2 x1 v).hp, 8, [0]⟩)
noncomputable def mnu_L0_rd (ex : Ex) (s : St) : Option ((Int × Int) ⊕ (Int × Int)) × List (Nat × Option Nat) := match ex with
  | .normal => (some (.inl (rI (frC s 6 0), rI (frC s 7 0))), [(6, some 6)])
  | .exit i => bif Nat.beq i 0 then (some (.inr (rI (frC s 6 0), rI (frC s 7 0))), [(6, some 6)]) else (none, [])
  | _ => (none, [])
noncomputable def mnu_L0_step (x0_0 : List (List Ct)) (x0_1 x0_2 x1 : Int) : (Int × Int) → Option ((Int × Int) ⊕ (Int × Int)) := fun v => match v with
  | (vi0, vi1) => bif (decide (vi1 ≥ (0 : Int))) then (bif (decide ((0 : Int) ≤ vi1 ∧ vi1 < (↑(mrw_v x0_0 x0_1 x0_2 x1).snd.snd.length : Int))) then some (.inl (IntKind.u64.wrap (IntKind.u64.wrap (vi0 * (256 : Int)) + IntKind.u64.wrap (rd (mrw_v x0_0 x0_1 x0_2 x1).snd.snd vi1.toNat 0).int), IntKind.i64.wrap (vi1 - (1 : Int)))) else none) else some (.inr (vi0, vi1))
noncomputable def mnu_L0_c : Code := loopC Try.prog 43 0
set_option maxRecDepth 100000 in
theorem mnu_L0_ok (x0_0 : List (List Ct)) (x0_1 x0_2 x1 : Int) : ∀ v, StepOk Try.prog 2 mnu_L0_c (mnu_L0_S x0_0 x0_1 x0_2 x1) (mnu_L0_T x0_0 x0_1 x0_2 x1) v (mnu_L0_step x0_0 x0_1 x0_2 x1 v) := fun v => match v with | (vi0, vi1) => eng_step (C := (⟨consReel6, fun _ _ _ => none, fun f => false, noFacts, fun _ => 0⟩ : Cfg Try.prog)) noFacts_ok (n := 30) (f := 43) mnu_L0_rd (fun _ => rfl) (by kernel_rfl)
noncomputable def mnu_L0_p (x0_0 : List (List Ct)) (x0_1 x0_2 x1 : Int) : Bool := (iter (mnu_L0_step x0_0 x0_1 x0_2 x1) 1000 (0, (IntKind.i64.wrap ((↑(mrw_v x0_0 x0_1 x0_2 x1).snd.snd.length : Int) - (1 : Int))))).isSome
noncomputable def mnu_L0_v (x0_0 : List (List Ct)) (x0_1 x0_2 x1 : Int) : Int × Int := loopRes (mnu_L0_step x0_0 x0_1 x0_2 x1) 1000 (0, (IntKind.i64.wrap ((↑(mrw_v x0_0 x0_1 x0_2 x1).snd.snd.length : Int) - (1 : Int))))
noncomputable def mnu_L0_lc (x0_0 : List (List Ct)) (x0_1 x0_2 x1 : Int) : LoopCon Try.prog := loopCon Try.prog 2 mnu_L0_c [(6, some 6)] (mnu_L0_S x0_0 x0_1 x0_2 x1) (mnu_L0_T x0_0 x0_1 x0_2 x1) 0 (mnu_L0_step x0_0 x0_1 x0_2 x1) (mnu_L0_ok x0_0 x0_1 x0_2 x1) 1000 (0, (IntKind.i64.wrap ((↑(mrw_v x0_0 x0_1 x0_2 x1).snd.snd.length : Int) - (1 : Int)))) (mnu_L0_p x0_0 x0_1 x0_2 x1) rfl (mnu_L0_v x0_0 x0_1 x0_2 x1) rfl
noncomputable def mnu_T (x0_0 : List (List Ct)) (x0_1 x0_2 x1 : Int) (v : Int × Int × Int) : St := ⟨[.d, .d, .d, .d, .o (.val false (.int .u64 v.1)), .d, .d, .d, .d, .d, .d, .d, .d, .d, .d, .d, .d, .d, .d, .d, .d, .d, .d, .d, .d, .d, .d], [(0, .cells [.ext 1, .q v.2.1, .q v.2.2] 117), (1, .grid ([Sh.int IntKind.u8]) x0_0)], 8, [0]⟩
noncomputable def mnu_O (v : Int × Int × Int) : Out := ⟨.sv (.one (.val false (.int .u64 v.1))), [(0, .cells [.ext 1, .val false (.int .i64 v.2.1), .val false (.int .i64 v.2.2)] 117)], 8, [0]⟩
noncomputable def mnu_rd (ex : Ex) (s : St) : Option (Int × Int × Int) × List (Nat × Option Nat) := (some (rI (frC s 4 0), rI (hpC s 0 1), rI (hpC s 0 2)), [])
noncomputable def mnu_res (x0_0 : List (List Ct)) (x0_1 x0_2 x1 : Int) : Option (Int × Int × Int) := bif ((mrw_res x0_0 x0_1 x0_2 x1).isSome) then bif (mnu_L0_p x0_0 x0_1 x0_2 x1) then some ((mnu_L0_v x0_0 x0_1 x0_2 x1).fst, (mrw_v x0_0 x0_1 x0_2 x1).fst, (mrw_v x0_0 x0_1 x0_2 x1).snd.fst) else none else none
set_option maxRecDepth 100000 in
theorem mnu_tree {x0_0 : List (List Ct)} {x0_1 x0_2 x1 : Int} {v : Int × Int × Int} (h : mnu_res x0_0 x0_1 x0_2 x1 = some v) : CallOk Try.prog 43 [.sv (.one (.ptr 0 0)), .sv (.one (.val false (.int .i64 x1)))] [(0, .cells [.ext 1, .val false (.int .i64 x0_1), .val false (.int .i64 x0_2)] 117), (1, .grid [.int .u8] x0_0)] 2 (mnu_O v) :=
  eng_body (C := (⟨consReel6, fun f id nx => bif Nat.beq f 43 then (bif Nat.beq id 0 then some (mnu_L0_lc x0_0 x0_1 x0_2 x1) else none) else none, fun f => false, noFacts, fun _ => 0⟩ : Cfg Try.prog)) noFacts_ok (n := 30) (f := 43) (mnu_T x0_0 x0_1 x0_2 x1) mnu_O mnu_rd rfl (fun r => rfl) (by kernel_rfl) h
noncomputable def mnu_v (x0_0 : List (List Ct)) (x0_1 x0_2 x1 : Int) : Int × Int × Int := (mnu_res x0_0 x0_1 x0_2 x1).getD default
theorem mnu_spec (x0_0 : List (List Ct)) (x0_1 x0_2 x1 : Int) (h : ((mnu_res x0_0 x0_1 x0_2 x1).isSome) = true) : mnu_res x0_0 x0_1 x0_2 x1 = some (mnu_v x0_0 x0_1 x0_2 x1) := opt_get h
noncomputable def mnu_as : List ASh := [.ptr 117 [.grid [.int .u8], .int .i64, .int .i64], .one (.int .i64)]
noncomputable def mnu_con : Con Try.prog := conS Try.prog 43 mnu_as (fun x => some ((mnu_res (x.getD 0 (.i 0)).rows (x.getD 1 (.i 0)).int (x.getD 2 (.i 0)).int (x.getD 3 (.i 0)).int).isSome)) (fun x => mnu_O (mnu_v (x.getD 0 (.i 0)).rows (x.getD 1 (.i 0)).int (x.getD 2 (.i 0)).int (x.getD 3 (.i 0)).int))
  (fun x h => ⟨by kernel_rfl, by kernel_rfl, Eq.mp (by kernel_rfl) (@mnu_tree ((x.getD 0 (.i 0)).rows) ((x.getD 1 (.i 0)).int) ((x.getD 2 (.i 0)).int) ((x.getD 3 (.i 0)).int) _ (mnu_spec ((x.getD 0 (.i 0)).rows) ((x.getD 1 (.i 0)).int) ((x.getD 2 (.i 0)).int) ((x.getD 3 (.i 0)).int) (h _ rfl)))⟩)
noncomputable def consReel7 : List (Con Try.prog) := [mnu_con] ++ consReel6
end Go.Proofs.Ytcpbiijegbbafaa

/- The document's reader's values. No condition. -/
set_option linter.unusedVariables false
set_option linter.unusedSimpArgs false
namespace Go.Proofs.Ytcpbiijegbbafaa
open Go.RowKit

noncomputable def msl_T (x0_0 : List (List Ct)) (x0_1 : Int) (x0_2 : Int) (v : Int × Int × Int) : St := ⟨[.d, .d, .o (.q v.1), .d, .d, .d, .d, .d, .d, .d, .d, .d], [(0, .cells [.ext 1, .q v.2.1, .q v.2.2] 117), (1, .grid ([Sh.int IntKind.u8]) x0_0)], 9, [0]⟩
noncomputable def msl_O (v : Int × Int × Int) : Out := ⟨.sv (.one (.val false (.int .i64 v.1))), [(0, .cells [.ext 1, .val false (.int .i64 v.2.1), .val false (.int .i64 v.2.2)] 117)], 9, [0]⟩
noncomputable def msl_rd (ex : Ex) (s : St) : Option (Int × Int × Int) × List (Nat × Option Nat) := (some (rI (frC s 2 0), rI (hpC s 0 1), rI (hpC s 0 2)), [])
noncomputable def msl_res (x0_0 : List (List Ct)) (x0_1 : Int) (x0_2 : Int) : Option (Int × Int × Int) := bif ((mnu_res x0_0 x0_1 x0_2 (2 : Int)).isSome) then bif (decide (IntKind.i64.wrap (mnu_v x0_0 x0_1 x0_2 (2 : Int)).fst ≥ (32768 : Int))) then (some (IntKind.i64.wrap (IntKind.i64.wrap (mnu_v x0_0 x0_1 x0_2 (2 : Int)).fst - (65536 : Int)), (mnu_v x0_0 x0_1 x0_2 (2 : Int)).snd.fst, (mnu_v x0_0 x0_1 x0_2 (2 : Int)).snd.snd)) else some (IntKind.i64.wrap (mnu_v x0_0 x0_1 x0_2 (2 : Int)).fst, (mnu_v x0_0 x0_1 x0_2 (2 : Int)).snd.fst, (mnu_v x0_0 x0_1 x0_2 (2 : Int)).snd.snd) else none
set_option maxRecDepth 100000 in
theorem msl_tree {x0_0 : List (List Ct)} {x0_1 : Int} {x0_2 : Int} {v : Int × Int × Int} (h : msl_res x0_0 x0_1 x0_2 = some v) : CallOk Try.prog 47 [.sv (.one (.ptr 0 0))] [(0, .cells [.ext 1, .val false (.int .i64 x0_1), .val false (.int .i64 x0_2)] 117), (1, .grid [.int .u8] x0_0)] 2 (msl_O v) :=
  eng_body (C := (⟨consReel7, fun _ _ _ => none, fun f => false, noFacts, fun _ => 0⟩ : Cfg Try.prog)) noFacts_ok (n := 30) (f := 47) (msl_T x0_0 x0_1 x0_2) msl_O msl_rd rfl (fun r => rfl) (by kernel_rfl) h
noncomputable def msl_v (x0_0 : List (List Ct)) (x0_1 : Int) (x0_2 : Int) : Int × Int × Int := (msl_res x0_0 x0_1 x0_2).getD default
theorem msl_spec (x0_0 : List (List Ct)) (x0_1 : Int) (x0_2 : Int) (h : ((msl_res x0_0 x0_1 x0_2).isSome) = true) : msl_res x0_0 x0_1 x0_2 = some (msl_v x0_0 x0_1 x0_2) := opt_get h
noncomputable def msl_as : List ASh := [.ptr 117 [.grid [.int .u8], .int .i64, .int .i64]]
noncomputable def msl_con : Con Try.prog := conS Try.prog 47 msl_as (fun x => some ((msl_res (x.getD 0 (.i 0)).rows (x.getD 1 (.i 0)).int (x.getD 2 (.i 0)).int).isSome)) (fun x => msl_O (msl_v (x.getD 0 (.i 0)).rows (x.getD 1 (.i 0)).int (x.getD 2 (.i 0)).int))
  (fun x h => ⟨by kernel_rfl, by kernel_rfl, Eq.mp (by kernel_rfl) (@msl_tree ((x.getD 0 (.i 0)).rows) ((x.getD 1 (.i 0)).int) ((x.getD 2 (.i 0)).int) _ (msl_spec ((x.getD 0 (.i 0)).rows) ((x.getD 1 (.i 0)).int) ((x.getD 2 (.i 0)).int) (h _ rfl)))⟩)

noncomputable def mfx_T (x0_0 : List (List Ct)) (x0_1 : Int) (x0_2 : Int) (v : Int × Int × Int) : St := ⟨[.d, .d, .o (.q v.1), .d, .d, .d, .d, .d, .d, .d, .d, .d, .d, .d, .d, .d, .d, .d, .d, .d, .d, .d, .d, .d, .d, .d], [(0, .cells [.ext 1, .q v.2.1, .q v.2.2] 117), (1, .grid ([Sh.int IntKind.u8]) x0_0)], 12, [0]⟩
noncomputable def mfx_O (v : Int × Int × Int) : Out := ⟨.sv (.one (.val false (.int .i64 v.1))), [(0, .cells [.ext 1, .val false (.int .i64 v.2.1), .val false (.int .i64 v.2.2)] 117)], 12, [0]⟩
noncomputable def mfx_rd (ex : Ex) (s : St) : Option (Int × Int × Int) × List (Nat × Option Nat) := (some (rI (frC s 2 0), rI (hpC s 0 1), rI (hpC s 0 2)), [])
noncomputable def mfx_res (x0_0 : List (List Ct)) (x0_1 : Int) (x0_2 : Int) : Option (Int × Int × Int) := bif ((mnu_res x0_0 x0_1 x0_2 (5 : Int)).isSome) then bif (decide (IntKind.i64.wrap (mnu_v x0_0 x0_1 x0_2 (5 : Int)).fst ≥ (549755813888 : Int))) then (bif (decide (IntKind.i64.wrap (IntKind.i64.wrap (mnu_v x0_0 x0_1 x0_2 (5 : Int)).fst - (1099511627776 : Int)) > (2147483648 : Int))) then (bif ((mnu_v x0_0 x0_1 x0_2 (5 : Int)).snd.snd == (0 : Int)) then (some (0, (mnu_v x0_0 x0_1 x0_2 (5 : Int)).snd.fst, 33)) else some (0, (mnu_v x0_0 x0_1 x0_2 (5 : Int)).snd.fst, (mnu_v x0_0 x0_1 x0_2 (5 : Int)).snd.snd)) else bif (decide (IntKind.i64.wrap (IntKind.i64.wrap (mnu_v x0_0 x0_1 x0_2 (5 : Int)).fst - (1099511627776 : Int)) < (-2147483648 : Int))) then (bif ((mnu_v x0_0 x0_1 x0_2 (5 : Int)).snd.snd == (0 : Int)) then (some (0, (mnu_v x0_0 x0_1 x0_2 (5 : Int)).snd.fst, 33)) else some (0, (mnu_v x0_0 x0_1 x0_2 (5 : Int)).snd.fst, (mnu_v x0_0 x0_1 x0_2 (5 : Int)).snd.snd)) else some (IntKind.i64.wrap (IntKind.i64.wrap (mnu_v x0_0 x0_1 x0_2 (5 : Int)).fst - (1099511627776 : Int)), (mnu_v x0_0 x0_1 x0_2 (5 : Int)).snd.fst, (mnu_v x0_0 x0_1 x0_2 (5 : Int)).snd.snd)) else bif (decide (IntKind.i64.wrap (mnu_v x0_0 x0_1 x0_2 (5 : Int)).fst > (2147483648 : Int))) then (bif ((mnu_v x0_0 x0_1 x0_2 (5 : Int)).snd.snd == (0 : Int)) then (some (0, (mnu_v x0_0 x0_1 x0_2 (5 : Int)).snd.fst, 33)) else some (0, (mnu_v x0_0 x0_1 x0_2 (5 : Int)).snd.fst, (mnu_v x0_0 x0_1 x0_2 (5 : Int)).snd.snd)) else bif (decide (IntKind.i64.wrap (mnu_v x0_0 x0_1 x0_2 (5 : Int)).fst < (-2147483648 : Int))) then (bif ((mnu_v x0_0 x0_1 x0_2 (5 : Int)).snd.snd == (0 : Int)) then (some (0, (mnu_v x0_0 x0_1 x0_2 (5 : Int)).snd.fst, 33)) else some (0, (mnu_v x0_0 x0_1 x0_2 (5 : Int)).snd.fst, (mnu_v x0_0 x0_1 x0_2 (5 : Int)).snd.snd)) else some (IntKind.i64.wrap (mnu_v x0_0 x0_1 x0_2 (5 : Int)).fst, (mnu_v x0_0 x0_1 x0_2 (5 : Int)).snd.fst, (mnu_v x0_0 x0_1 x0_2 (5 : Int)).snd.snd) else none
set_option maxRecDepth 100000 in
theorem mfx_tree {x0_0 : List (List Ct)} {x0_1 : Int} {x0_2 : Int} {v : Int × Int × Int} (h : mfx_res x0_0 x0_1 x0_2 = some v) : CallOk Try.prog 44 [.sv (.one (.ptr 0 0))] [(0, .cells [.ext 1, .val false (.int .i64 x0_1), .val false (.int .i64 x0_2)] 117), (1, .grid [.int .u8] x0_0)] 2 (mfx_O v) :=
  eng_body (C := (⟨consReel7, fun _ _ _ => none, fun f => false, noFacts, fun _ => 0⟩ : Cfg Try.prog)) noFacts_ok (n := 30) (f := 44) (mfx_T x0_0 x0_1 x0_2) mfx_O mfx_rd rfl (fun r => rfl) (by kernel_rfl) h
noncomputable def mfx_v (x0_0 : List (List Ct)) (x0_1 : Int) (x0_2 : Int) : Int × Int × Int := (mfx_res x0_0 x0_1 x0_2).getD default
theorem mfx_spec (x0_0 : List (List Ct)) (x0_1 : Int) (x0_2 : Int) (h : ((mfx_res x0_0 x0_1 x0_2).isSome) = true) : mfx_res x0_0 x0_1 x0_2 = some (mfx_v x0_0 x0_1 x0_2) := opt_get h
noncomputable def mfx_as : List ASh := [.ptr 117 [.grid [.int .u8], .int .i64, .int .i64]]
noncomputable def mfx_con : Con Try.prog := conS Try.prog 44 mfx_as (fun x => some ((mfx_res (x.getD 0 (.i 0)).rows (x.getD 1 (.i 0)).int (x.getD 2 (.i 0)).int).isSome)) (fun x => mfx_O (mfx_v (x.getD 0 (.i 0)).rows (x.getD 1 (.i 0)).int (x.getD 2 (.i 0)).int))
  (fun x h => ⟨by kernel_rfl, by kernel_rfl, Eq.mp (by kernel_rfl) (@mfx_tree ((x.getD 0 (.i 0)).rows) ((x.getD 1 (.i 0)).int) ((x.getD 2 (.i 0)).int) _ (mfx_spec ((x.getD 0 (.i 0)).rows) ((x.getD 1 (.i 0)).int) ((x.getD 2 (.i 0)).int) (h _ rfl)))⟩)
noncomputable def consReel8 : List (Con Try.prog) := [msl_con, mfx_con] ++ consReel7
end Go.Proofs.Ytcpbiijegbbafaa

/- The document's reader's points. No condition. -/
set_option linter.unusedVariables false
set_option linter.unusedSimpArgs false
namespace Go.Proofs.Ytcpbiijegbbafaa
open Go.RowKit

noncomputable def mvc_T (x0_0 : List (List Ct)) (x0_1 : Int) (x0_2 : Int) (v : Int × Int × Int × Int × Int) : St := ⟨[.d, .d, .o (.ptr 2 0), .d, .d, .d, .d, .d, .d, .d, .d, .d, .d, .d, .d, .d, .d, .d, .d, .d], [(0, .cells [.ext 1, .q v.1, .q v.2.1] 117), (1, .grid ([Sh.int IntKind.u8]) x0_0), (2, .cells [.q v.2.2.1, .q v.2.2.2.1, .q v.2.2.2.2] 121)], 35, [0]⟩
noncomputable def mvc_O (v : Int × Int × Int × Int × Int) : Out := ⟨.sv (.agg [.val false (.int .i64 v.2.2.1), .val false (.int .i64 v.2.2.2.1), .val false (.int .i64 v.2.2.2.2)]), [(0, .cells [.ext 1, .val false (.int .i64 v.1), .val false (.int .i64 v.2.1)] 117)], 35, [0]⟩
noncomputable def mvc_rd (ex : Ex) (s : St) : Option (Int × Int × Int × Int × Int) × List (Nat × Option Nat) := (some (rI (hpC s 0 1), rI (hpC s 0 2), rI (hpC s 2 0), rI (hpC s 2 1), rI (hpC s 2 2)), [(2, some 2)])
noncomputable def mvc_res (x0_0 : List (List Ct)) (x0_1 : Int) (x0_2 : Int) : Option (Int × Int × Int × Int × Int) := bif ((mfx_res x0_0 x0_1 x0_2).isSome) then bif ((mfx_res x0_0 (mfx_v x0_0 x0_1 x0_2).snd.fst (mfx_v x0_0 x0_1 x0_2).snd.snd).isSome) then bif ((mfx_res x0_0 (mfx_v x0_0 (mfx_v x0_0 x0_1 x0_2).snd.fst (mfx_v x0_0 x0_1 x0_2).snd.snd).snd.fst (mfx_v x0_0 (mfx_v x0_0 x0_1 x0_2).snd.fst (mfx_v x0_0 x0_1 x0_2).snd.snd).snd.snd).isSome) then bif ((mfx_v x0_0 (mfx_v x0_0 (mfx_v x0_0 x0_1 x0_2).snd.fst (mfx_v x0_0 x0_1 x0_2).snd.snd).snd.fst (mfx_v x0_0 (mfx_v x0_0 x0_1 x0_2).snd.fst (mfx_v x0_0 x0_1 x0_2).snd.snd).snd.snd).snd.snd != (0 : Int)) then (some ((mfx_v x0_0 (mfx_v x0_0 (mfx_v x0_0 x0_1 x0_2).snd.fst (mfx_v x0_0 x0_1 x0_2).snd.snd).snd.fst (mfx_v x0_0 (mfx_v x0_0 x0_1 x0_2).snd.fst (mfx_v x0_0 x0_1 x0_2).snd.snd).snd.snd).snd.fst, (mfx_v x0_0 (mfx_v x0_0 (mfx_v x0_0 x0_1 x0_2).snd.fst (mfx_v x0_0 x0_1 x0_2).snd.snd).snd.fst (mfx_v x0_0 (mfx_v x0_0 x0_1 x0_2).snd.fst (mfx_v x0_0 x0_1 x0_2).snd.snd).snd.snd).snd.snd, 0, 0, 0)) else some ((mfx_v x0_0 (mfx_v x0_0 (mfx_v x0_0 x0_1 x0_2).snd.fst (mfx_v x0_0 x0_1 x0_2).snd.snd).snd.fst (mfx_v x0_0 (mfx_v x0_0 x0_1 x0_2).snd.fst (mfx_v x0_0 x0_1 x0_2).snd.snd).snd.snd).snd.fst, (mfx_v x0_0 (mfx_v x0_0 (mfx_v x0_0 x0_1 x0_2).snd.fst (mfx_v x0_0 x0_1 x0_2).snd.snd).snd.fst (mfx_v x0_0 (mfx_v x0_0 x0_1 x0_2).snd.fst (mfx_v x0_0 x0_1 x0_2).snd.snd).snd.snd).snd.snd, (mfx_v x0_0 x0_1 x0_2).fst, (mfx_v x0_0 (mfx_v x0_0 x0_1 x0_2).snd.fst (mfx_v x0_0 x0_1 x0_2).snd.snd).fst, (mfx_v x0_0 (mfx_v x0_0 (mfx_v x0_0 x0_1 x0_2).snd.fst (mfx_v x0_0 x0_1 x0_2).snd.snd).snd.fst (mfx_v x0_0 (mfx_v x0_0 x0_1 x0_2).snd.fst (mfx_v x0_0 x0_1 x0_2).snd.snd).snd.snd).fst) else none else none else none
set_option maxRecDepth 100000 in
theorem mvc_tree {x0_0 : List (List Ct)} {x0_1 : Int} {x0_2 : Int} {v : Int × Int × Int × Int × Int} (h : mvc_res x0_0 x0_1 x0_2 = some v) : CallOk Try.prog 45 [.sv (.one (.ptr 0 0))] [(0, .cells [.ext 1, .val false (.int .i64 x0_1), .val false (.int .i64 x0_2)] 117), (1, .grid [.int .u8] x0_0)] 2 (mvc_O v) :=
  eng_body (C := (⟨consReel8, fun _ _ _ => none, fun f => false, noFacts, fun _ => 0⟩ : Cfg Try.prog)) noFacts_ok (n := 30) (f := 45) (mvc_T x0_0 x0_1 x0_2) mvc_O mvc_rd rfl (fun r => rfl) (by kernel_rfl) h
noncomputable def mvc_v (x0_0 : List (List Ct)) (x0_1 : Int) (x0_2 : Int) : Int × Int × Int × Int × Int := (mvc_res x0_0 x0_1 x0_2).getD default
theorem mvc_spec (x0_0 : List (List Ct)) (x0_1 : Int) (x0_2 : Int) (h : ((mvc_res x0_0 x0_1 x0_2).isSome) = true) : mvc_res x0_0 x0_1 x0_2 = some (mvc_v x0_0 x0_1 x0_2) := opt_get h
noncomputable def mvc_as : List ASh := [.ptr 117 [.grid [.int .u8], .int .i64, .int .i64]]
noncomputable def mvc_con : Con Try.prog := conS Try.prog 45 mvc_as (fun x => some ((mvc_res (x.getD 0 (.i 0)).rows (x.getD 1 (.i 0)).int (x.getD 2 (.i 0)).int).isSome)) (fun x => mvc_O (mvc_v (x.getD 0 (.i 0)).rows (x.getD 1 (.i 0)).int (x.getD 2 (.i 0)).int))
  (fun x h => ⟨by kernel_rfl, by kernel_rfl, Eq.mp (by kernel_rfl) (@mvc_tree ((x.getD 0 (.i 0)).rows) ((x.getD 1 (.i 0)).int) ((x.getD 2 (.i 0)).int) _ (mvc_spec ((x.getD 0 (.i 0)).rows) ((x.getD 1 (.i 0)).int) ((x.getD 2 (.i 0)).int) (h _ rfl)))⟩)
noncomputable def consReel9 : List (Con Try.prog) := [mvc_con] ++ consReel8
end Go.Proofs.Ytcpbiijegbbafaa

/- The document's reader's blobs. No condition. -/
set_option linter.unusedVariables false
set_option linter.unusedSimpArgs false
namespace Go.Proofs.Ytcpbiijegbbafaa
open Go.RowKit

noncomputable def mbl_T (x0_0 : List (List Ct)) (x0_1 x0_2 x1 : Int) (v : Int × Int × List (List Ct)) : St := ⟨[.d, .d, .d, .d, .o (.ext 15), .d, .d, .d, .d, .d, .d, .d, .d, .d, .d, .d, .d, .d, .d, .d, .d, .d, .d, .d, .d, .d, .d], [(0, .cells [.ext 1, .q v.1, .q v.2.1] 117), (1, .grid ([Sh.int IntKind.u8]) x0_0), (15, .row ([Sh.int IntKind.u8]) 5 v.2.2)], 16, [0]⟩
noncomputable def mbl_O (v : Int × Int × List (List Ct)) : Out := ⟨.sv (.one (.ext 15)), [(0, .cells [.ext 1, .val false (.int .i64 v.1), .val false (.int .i64 v.2.1)] 117), (15, .row ([Sh.int IntKind.u8]) 5 v.2.2)], 16, [0]⟩
noncomputable def mbl_rd (ex : Ex) (s : St) : Option (Int × Int × List (List Ct)) × List (Nat × Option Nat) := (some (rI (hpC s 0 1), rI (hpC s 0 2), rL s (frC s 4 0)), [rnOf 15 (frC s 4 0)])
noncomputable def mbl_res (x0_0 : List (List Ct)) (x0_1 x0_2 x1 : Int) : Option (Int × Int × List (List Ct)) := bif ((mnu_res x0_0 x0_1 x0_2 (4 : Int)).isSome) then bif (decide (IntKind.i64.wrap (mnu_v x0_0 x0_1 x0_2 (4 : Int)).fst > bif decide (x1 < (0 : Int)) then (0 : Int) else x1)) then (bif ((mrw_res x0_0 (mnu_v x0_0 x0_1 x0_2 (4 : Int)).snd.fst (bif (mnu_v x0_0 x0_1 x0_2 (4 : Int)).snd.snd == (0 : Int) then (8 : Int) else (mnu_v x0_0 x0_1 x0_2 (4 : Int)).snd.snd) (IntKind.i64.wrap (mnu_v x0_0 x0_1 x0_2 (4 : Int)).fst)).isSome) then some ((mrw_v x0_0 (mnu_v x0_0 x0_1 x0_2 (4 : Int)).snd.fst (bif (mnu_v x0_0 x0_1 x0_2 (4 : Int)).snd.snd == (0 : Int) then (8 : Int) else (mnu_v x0_0 x0_1 x0_2 (4 : Int)).snd.snd) (IntKind.i64.wrap (mnu_v x0_0 x0_1 x0_2 (4 : Int)).fst)).fst, (mrw_v x0_0 (mnu_v x0_0 x0_1 x0_2 (4 : Int)).snd.fst (bif (mnu_v x0_0 x0_1 x0_2 (4 : Int)).snd.snd == (0 : Int) then (8 : Int) else (mnu_v x0_0 x0_1 x0_2 (4 : Int)).snd.snd) (IntKind.i64.wrap (mnu_v x0_0 x0_1 x0_2 (4 : Int)).fst)).snd.fst, (mrw_v x0_0 (mnu_v x0_0 x0_1 x0_2 (4 : Int)).snd.fst (bif (mnu_v x0_0 x0_1 x0_2 (4 : Int)).snd.snd == (0 : Int) then (8 : Int) else (mnu_v x0_0 x0_1 x0_2 (4 : Int)).snd.snd) (IntKind.i64.wrap (mnu_v x0_0 x0_1 x0_2 (4 : Int)).fst)).snd.snd) else none) else bif ((mrw_res x0_0 (mnu_v x0_0 x0_1 x0_2 (4 : Int)).snd.fst (mnu_v x0_0 x0_1 x0_2 (4 : Int)).snd.snd (IntKind.i64.wrap (mnu_v x0_0 x0_1 x0_2 (4 : Int)).fst)).isSome) then some ((mrw_v x0_0 (mnu_v x0_0 x0_1 x0_2 (4 : Int)).snd.fst (mnu_v x0_0 x0_1 x0_2 (4 : Int)).snd.snd (IntKind.i64.wrap (mnu_v x0_0 x0_1 x0_2 (4 : Int)).fst)).fst, (mrw_v x0_0 (mnu_v x0_0 x0_1 x0_2 (4 : Int)).snd.fst (mnu_v x0_0 x0_1 x0_2 (4 : Int)).snd.snd (IntKind.i64.wrap (mnu_v x0_0 x0_1 x0_2 (4 : Int)).fst)).snd.fst, (mrw_v x0_0 (mnu_v x0_0 x0_1 x0_2 (4 : Int)).snd.fst (mnu_v x0_0 x0_1 x0_2 (4 : Int)).snd.snd (IntKind.i64.wrap (mnu_v x0_0 x0_1 x0_2 (4 : Int)).fst)).snd.snd) else none else none
set_option maxRecDepth 100000 in
theorem mbl_tree {x0_0 : List (List Ct)} {x0_1 x0_2 x1 : Int} {v : Int × Int × List (List Ct)} (h : mbl_res x0_0 x0_1 x0_2 x1 = some v) : CallOk Try.prog 94 [.sv (.one (.ptr 0 0)), .sv (.one (.val false (.int .i64 x1)))] [(0, .cells [.ext 1, .val false (.int .i64 x0_1), .val false (.int .i64 x0_2)] 117), (1, .grid [.int .u8] x0_0)] 2 (mbl_O v) :=
  eng_body (C := (⟨consReel7, fun _ _ _ => none, fun f => false, noFacts, fun _ => 4⟩ : Cfg Try.prog)) noFacts_ok (n := 30) (f := 94) (mbl_T x0_0 x0_1 x0_2 x1) mbl_O mbl_rd rfl (fun r => rfl) (by kernel_rfl) h
noncomputable def mbl_v (x0_0 : List (List Ct)) (x0_1 x0_2 x1 : Int) : Int × Int × List (List Ct) := (mbl_res x0_0 x0_1 x0_2 x1).getD default
theorem mbl_spec (x0_0 : List (List Ct)) (x0_1 x0_2 x1 : Int) (h : ((mbl_res x0_0 x0_1 x0_2 x1).isSome) = true) : mbl_res x0_0 x0_1 x0_2 x1 = some (mbl_v x0_0 x0_1 x0_2 x1) := opt_get h
noncomputable def mbl_as : List ASh := [.ptr 117 [.grid [.int .u8], .int .i64, .int .i64], .one (.int .i64)]
noncomputable def mbl_con : Con Try.prog := conS Try.prog 94 mbl_as (fun x => some ((mbl_res (x.getD 0 (.i 0)).rows (x.getD 1 (.i 0)).int (x.getD 2 (.i 0)).int (x.getD 3 (.i 0)).int).isSome)) (fun x => mbl_O (mbl_v (x.getD 0 (.i 0)).rows (x.getD 1 (.i 0)).int (x.getD 2 (.i 0)).int (x.getD 3 (.i 0)).int))
  (fun x h => ⟨by kernel_rfl, by kernel_rfl, Eq.mp (by kernel_rfl) (@mbl_tree ((x.getD 0 (.i 0)).rows) ((x.getD 1 (.i 0)).int) ((x.getD 2 (.i 0)).int) ((x.getD 3 (.i 0)).int) _ (mbl_spec ((x.getD 0 (.i 0)).rows) ((x.getD 1 (.i 0)).int) ((x.getD 2 (.i 0)).int) ((x.getD 3 (.i 0)).int) (h _ rfl)))⟩)
end Go.Proofs.Ytcpbiijegbbafaa
