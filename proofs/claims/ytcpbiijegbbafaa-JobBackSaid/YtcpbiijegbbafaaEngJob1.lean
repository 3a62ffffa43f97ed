/- What stands ahead of a job; how many there are. No condition. -/
import Derived.Test.YtcpbiijegbbafaaEngReel5
set_option linter.unusedVariables false
set_option linter.unusedSimpArgs false
namespace Go.Proofs.Ytcpbiijegbbafaa
open Go.RowKit

noncomputable def jmg_L0_S (u0 : List (List Ct)) (u1 : Int) (v : Int × Int × List (List Ct)) : St := ⟨[.sv (.agg [.ptr 0 0]), .o (.ptr 2 0), .d, .d, .d, .o (.ext 3), .o (.ext 4), .o (.q (↑[[Ct.i (90 : Int)], [Ct.i (79 : Int)], [Ct.i (69 : Int)], [Ct.i (49 : Int)]].length : Int)), .o (.q v.1), .d, .d, .d, .d, .d, .d, .d, .d, .d, .d, .d, .d, .d, .d, .d, .d, .d, .d, .d, .d], [(0, .cells [.ext 5, .q v.2.1] 183), (1, .grid ([Sh.int IntKind.u8]) u0), (2, .cells [.ptr 0 0] 92), (3, .gone), (4, .grid ([Sh.int IntKind.u8]) ([[Ct.i (90 : Int)], [Ct.i (79 : Int)], [Ct.i (69 : Int)], [Ct.i (49 : Int)]])), (5, .grid ([Sh.int IntKind.u8]) v.2.2)], 6, [0]⟩
noncomputable def jmg_L0_T (u0 : List (List Ct)) (u1 : Int) (v : Int × Int × List (List Ct)) : Ex × St := ((.exit 0), ⟨(jmg_L0_S u0 u1 v).fr, (jmg_L0_S u0 u1 v).hp, 7, [0]⟩)
noncomputable def jmg_L0_rd (ex : Ex) (s : St) : Option ((Int × Int × List (List Ct)) ⊕ (Int × Int × List (List Ct))) × List (Nat × Option Nat) := match ex with
  | .normal => (some (.inl (rI (frC s 8 0), rI (hpC s 0 1), rL s (hpC s 0 0))), [(2, some 2), (3, some 3), (4, some 4), rnOf 5 (hpC s 0 0)])
  | .exit i => bif Nat.beq i 0 then (some (.inr (rI (frC s 8 0), rI (hpC s 0 1), rL s (hpC s 0 0))), [(2, some 2), (3, some 3), (4, some 4), (5, some 5)]) else (none, [])
  | _ => (none, [])
noncomputable def jmg_L0_step  : (Int × Int × List (List Ct)) → Option ((Int × Int × List (List Ct)) ⊕ (Int × Int × List (List Ct))) := fun v => match v with
  | (vi0, vi1, vl0) => bif (decide (vi0 < (↑[[Ct.i (90 : Int)], [Ct.i (79 : Int)], [Ct.i (69 : Int)], [Ct.i (49 : Int)]].length : Int))) then (bif (decide ((0 : Int) ≤ vi0 ∧ vi0 < (↑[[Ct.i (90 : Int)], [Ct.i (79 : Int)], [Ct.i (69 : Int)], [Ct.i (49 : Int)]].length : Int))) then bif ((rby_res vl0 vi1).isSome) then bif ((rby_v vl0 vi1).snd.fst == (0 : Int)) then (bif ((rby_v vl0 vi1).fst != IntKind.i64.wrap (rd [[Ct.i (90 : Int)], [Ct.i (79 : Int)], [Ct.i (69 : Int)], [Ct.i (49 : Int)]] vi0.toNat 0).int) then (bif ((rby_v vl0 vi1).snd.fst == (0 : Int)) then (some (.inl (IntKind.i64.wrap (vi0 + (1 : Int)), 20, []))) else some (.inl (IntKind.i64.wrap (vi0 + (1 : Int)), (rby_v vl0 vi1).snd.fst, (rby_v vl0 vi1).snd.snd))) else some (.inl (IntKind.i64.wrap (vi0 + (1 : Int)), (rby_v vl0 vi1).snd.fst, (rby_v vl0 vi1).snd.snd))) else some (.inl (IntKind.i64.wrap (vi0 + (1 : Int)), (rby_v vl0 vi1).snd.fst, (rby_v vl0 vi1).snd.snd)) else none else none) else some (.inr (vi0, vi1, vl0))
noncomputable def jmg_L0_c : Code := loopC Try.prog 32 0
set_option maxRecDepth 100000 in
theorem jmg_L0_ok (u0 : List (List Ct)) (u1 : Int) : ∀ v, StepOk Try.prog 2 jmg_L0_c (jmg_L0_S u0 u1) (jmg_L0_T u0 u1) v (jmg_L0_step  v) := fun v => match v with | (vi0, vi1, vl0) => eng_step (C := (⟨consReel5, fun _ _ _ => none, fun f => ⟨false, true⟩, noFacts, fun _ => 0⟩ : Cfg Try.prog)) noFacts_ok (n := 30) (f := 32) jmg_L0_rd (fun _ => rfl) (by kernel_rfl)
noncomputable def jmg_L0_p (u0 : List (List Ct)) (u1 : Int) : Bool := (iter (jmg_L0_step ) 5 (0, u1, u0)).isSome
noncomputable def jmg_L0_v (u0 : List (List Ct)) (u1 : Int) : Int × Int × List (List Ct) := loopRes (jmg_L0_step ) 5 (0, u1, u0)
noncomputable def jmg_L0_lc (u0 : List (List Ct)) (u1 : Int) : LoopCon Try.prog := loopCon Try.prog 2 jmg_L0_c [(2, some 2), (3, some 3), (4, some 4), (5, some 1)] (jmg_L0_S u0 u1) (jmg_L0_T u0 u1) 0 (jmg_L0_step ) (jmg_L0_ok u0 u1) 5 (0, u1, u0) (jmg_L0_p u0 u1) rfl (jmg_L0_v u0 u1) rfl
noncomputable def jmg_T (u0 : List (List Ct)) (u1 : Int) (v : Int × List (List Ct)) : St := ⟨[.d, .d, .d, .d, .d, .d, .d, .d, .d, .d, .d, .d, .d, .d, .d, .d, .d, .d, .d, .d, .d, .d, .d, .d, .d, .d, .d, .d, .d], [(0, .cells [.ext 5, .q v.1] 183), (5, .grid ([Sh.int IntKind.u8]) v.2)], 7, [0]⟩
noncomputable def jmg_O (v : Int × List (List Ct)) : Out := ⟨.tup [], [(5, .grid ([Sh.int IntKind.u8]) v.2), (0, .cells [.ext 5, .val false (.int .i64 v.1)] 183)], 7, [0]⟩
noncomputable def jmg_rd (ex : Ex) (s : St) : Option (Int × List (List Ct)) × List (Nat × Option Nat) := (some (rI (hpC s 0 1), rL s (hpC s 0 0)), [(5, some 5)])
noncomputable def jmg_res (u0 : List (List Ct)) (u1 : Int) : Option (Int × List (List Ct)) := bif (decide (0 < [[Ct.i (90 : Int)], [Ct.i (79 : Int)], [Ct.i (69 : Int)], [Ct.i (49 : Int)]].length)) then bif (jmg_L0_p u0 u1) then some ((jmg_L0_v u0 u1).snd.fst, (jmg_L0_v u0 u1).snd.snd) else none else none
set_option maxRecDepth 100000 in
theorem jmg_tree {u0 : List (List Ct)} {u1 : Int} {v : Int × List (List Ct)} (h : jmg_res u0 u1 = some v) : CallOk Try.prog 32 [.sv (.agg [.ptr 0 0])] [(0, .cells [.ext 1, .val false (.int .i64 u1)] 183), (1, .grid [.int .u8] u0)] 2 (jmg_O v) :=
  eng_body (C := (⟨consReel5, fun f id nx => bif Nat.beq f 32 then (bif Nat.beq id 0 then some (jmg_L0_lc u0 u1) else none) else none, fun f => ⟨false, true⟩, noFacts, fun _ => 0⟩ : Cfg Try.prog)) noFacts_ok (n := 30) (f := 32) (jmg_T u0 u1) jmg_O jmg_rd rfl (fun r => rfl) (by kernel_rfl) h
noncomputable def jmg_v (u0 : List (List Ct)) (u1 : Int) : Int × List (List Ct) := (jmg_res u0 u1).getD default
theorem jmg_spec (u0 : List (List Ct)) (u1 : Int) (h : ((jmg_res u0 u1).isSome) = true) : jmg_res u0 u1 = some (jmg_v u0 u1) := opt_get h
noncomputable def jmg_as : List ASh := [.aptr 183 [.grid [.int .u8], .int .i64]]
noncomputable def jmg_con : Con Try.prog := conS Try.prog 32 jmg_as (fun x => some ((jmg_res (x.getD 0 (.i 0)).rows (x.getD 1 (.i 0)).int).isSome)) (fun x => jmg_O (jmg_v (x.getD 0 (.i 0)).rows (x.getD 1 (.i 0)).int))
  (fun x h => ⟨by kernel_rfl, by kernel_rfl, Eq.mp (by kernel_rfl) (@jmg_tree ((x.getD 0 (.i 0)).rows) ((x.getD 1 (.i 0)).int) _ (jmg_spec ((x.getD 0 (.i 0)).rows) ((x.getD 1 (.i 0)).int) (h _ rfl)))⟩)

noncomputable def jmn_T (u0 : List (List Ct)) (u1 x1 x2 : Int) (v : Int × Int × List (List Ct)) : St := ⟨[.d, .d, .d, .d, .d, .d, .o (.q v.1), .d, .d, .d, .d, .d, .d, .d, .d, .d, .d, .d, .d], [(0, .cells [.ext 7, .q v.2.1] 183), (7, .grid ([Sh.int IntKind.u8]) v.2.2)], 13, [0]⟩
noncomputable def jmn_O (v : Int × Int × List (List Ct)) : Out := ⟨.sv (.one (.val false (.int .i64 v.1))), [(7, .grid ([Sh.int IntKind.u8]) v.2.2), (0, .cells [.ext 7, .val false (.int .i64 v.2.1)] 183)], 13, [0]⟩
noncomputable def jmn_rd (ex : Ex) (s : St) : Option (Int × Int × List (List Ct)) × List (Nat × Option Nat) := (some (rI (frC s 6 0), rI (hpC s 0 1), rL s (hpC s 0 0)), [rnOf 7 (hpC s 0 0)])
noncomputable def jmn_res (u0 : List (List Ct)) (u1 x1 x2 : Int) : Option (Int × Int × List (List Ct)) := bif ((rby_res u0 u1).isSome) then bif (decide ((rby_v u0 u1).fst > x1)) then (bif ((rby_v u0 u1).snd.fst == (0 : Int)) then (bif (x2 != (0 : Int)) then (some (0, x2, [])) else some (0, (rby_v u0 u1).snd.fst, (rby_v u0 u1).snd.snd)) else some (0, (rby_v u0 u1).snd.fst, (rby_v u0 u1).snd.snd)) else some ((rby_v u0 u1).fst, (rby_v u0 u1).snd.fst, (rby_v u0 u1).snd.snd) else none
set_option maxRecDepth 100000 in
theorem jmn_tree {u0 : List (List Ct)} {u1 x1 x2 : Int} {v : Int × Int × List (List Ct)} (h : jmn_res u0 u1 x1 x2 = some v) : CallOk Try.prog 34 [.sv (.agg [.ptr 0 0]), .sv (.one (.val false (.int .i64 x1))), .sv (.one (.val false (.int .i64 x2)))] [(0, .cells [.ext 1, .val false (.int .i64 u1)] 183), (1, .grid [.int .u8] u0)] 2 (jmn_O v) :=
  eng_body (C := (⟨consReel5, fun _ _ _ => none, fun f => false, noFacts, fun _ => 0⟩ : Cfg Try.prog)) noFacts_ok (n := 30) (f := 34) (jmn_T u0 u1 x1 x2) jmn_O jmn_rd rfl (fun r => rfl) (by kernel_rfl) h
noncomputable def jmn_v (u0 : List (List Ct)) (u1 x1 x2 : Int) : Int × Int × List (List Ct) := (jmn_res u0 u1 x1 x2).getD default
theorem jmn_spec (u0 : List (List Ct)) (u1 x1 x2 : Int) (h : ((jmn_res u0 u1 x1 x2).isSome) = true) : jmn_res u0 u1 x1 x2 = some (jmn_v u0 u1 x1 x2) := opt_get h
noncomputable def jmn_as : List ASh := [.aptr 183 [.grid [.int .u8], .int .i64], .one (.int .i64), .one (.int .i64)]
noncomputable def jmn_con : Con Try.prog := conS Try.prog 34 jmn_as (fun x => some ((jmn_res (x.getD 0 (.i 0)).rows (x.getD 1 (.i 0)).int (x.getD 2 (.i 0)).int (x.getD 3 (.i 0)).int).isSome)) (fun x => jmn_O (jmn_v (x.getD 0 (.i 0)).rows (x.getD 1 (.i 0)).int (x.getD 2 (.i 0)).int (x.getD 3 (.i 0)).int))
  (fun x h => ⟨by kernel_rfl, by kernel_rfl, Eq.mp (by kernel_rfl) (@jmn_tree ((x.getD 0 (.i 0)).rows) ((x.getD 1 (.i 0)).int) ((x.getD 2 (.i 0)).int) ((x.getD 3 (.i 0)).int) _ (jmn_spec ((x.getD 0 (.i 0)).rows) ((x.getD 1 (.i 0)).int) ((x.getD 2 (.i 0)).int) ((x.getD 3 (.i 0)).int) (h _ rfl)))⟩)
noncomputable def consJob1 : List (Con Try.prog) := [jmg_con, jmn_con] ++ consReel5
end Go.Proofs.Ytcpbiijegbbafaa
