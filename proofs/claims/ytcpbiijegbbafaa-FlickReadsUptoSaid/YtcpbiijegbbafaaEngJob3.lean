/- Numbers that are laid. No condition. -/
import Derived.Test.YtcpbiijegbbafaaEngReelV
set_option linter.unusedVariables false
set_option linter.unusedSimpArgs false
namespace Go.Proofs.Ytcpbiijegbbafaa
open Go.RowKit

noncomputable def wra_L0_S (u0 : List (List Ct)) (x1 : Int) (x2 : Int) (v : Int × Int × List (List Ct)) : St := ⟨[.o (.ptr 0 0), .o (.val false (.int .u64 v.1)), .o (.q x2), .d, .d, .d, .o (.ptr 0 0), .o (.val true (.bool false)), .o (.q x2), .o (.q v.2.1), .d, .d, .d, .d, .d, .d, .d, .d, .d, .d, .d, .d, .d, .d, .d], [(0, .cells [.ext 2] 199), (1, .gone), (2, .row ([Sh.int IntKind.u8]) 5 v.2.2)], 3, [0, 1]⟩
noncomputable def wra_L0_T (u0 : List (List Ct)) (x1 : Int) (x2 : Int) (v : Int × Int × List (List Ct)) : Ex × St := ((.exit 0), ⟨(wra_L0_S u0 x1 x2 v).fr, (wra_L0_S u0 x1 x2 v).hp, 4, [0, 1]⟩)
noncomputable def wra_L0_rd (ex : Ex) (s : St) : Option ((Int × Int × List (List Ct)) ⊕ (Int × Int × List (List Ct))) × List (Nat × Option Nat) := match ex with
  | .normal => (some (.inl (rI (frC s 1 0), rI (frC s 9 0), rL s (hpC s 0 0))), [rnOf 2 (hpC s 0 0)])
  | .exit i => bif Nat.beq i 0 then (some (.inr (rI (frC s 1 0), rI (frC s 9 0), rL s (hpC s 0 0))), [(2, some 2)]) else (none, [])
  | _ => (none, [])
noncomputable def wra_L0_step (x2 : Int) : (Int × Int × List (List Ct)) → Option ((Int × Int × List (List Ct)) ⊕ (Int × Int × List (List Ct))) := fun v => match v with
  | (vi0, vi1, vl0) => bif (decide (vi1 < x2)) then (bif (decide (vl0.length + [[Ct.i (IntKind.u8.wrap vi0)]].length ≤ 9223372036854775807 ∧ (vl0.length + [[Ct.i (IntKind.u8.wrap vi0)]].length) * 1 ≤ 140737488355328)) then some (.inl (vi0.fdiv ((2 : Int) ^ min (Int.toNat (8 : Int)) IntKind.u64.bits), IntKind.i64.wrap (vi1 + (1 : Int)), vl0 ++ [[Ct.i (IntKind.u8.wrap vi0)]])) else none) else some (.inr (vi0, vi1, vl0))
noncomputable def wra_L0_c : Code := loopC Try.prog 111 0
set_option maxRecDepth 100000 in
theorem wra_L0_ok (u0 : List (List Ct)) (x1 : Int) (x2 : Int) : ∀ v, StepOk Try.prog 2 wra_L0_c (wra_L0_S u0 x1 x2) (wra_L0_T u0 x1 x2) v (wra_L0_step x2 v) := fun v => match v with | (vi0, vi1, vl0) => eng_step (C := (⟨consReelV, fun _ _ _ => none, fun f => false, noFacts, fun _ => 0⟩ : Cfg Try.prog)) noFacts_ok (n := 30) (f := 111) wra_L0_rd (fun _ => rfl) (by kernel_rfl)
noncomputable def wra_L0_p (u0 : List (List Ct)) (x1 : Int) (x2 : Int) : Bool := (iter (wra_L0_step x2) (x2.toNat + 1) (x1, 0, u0)).isSome
noncomputable def wra_L0_v (u0 : List (List Ct)) (x1 : Int) (x2 : Int) : Int × Int × List (List Ct) := loopRes (wra_L0_step x2) (x2.toNat + 1) (x1, 0, u0)
noncomputable def wra_L0_lc (u0 : List (List Ct)) (x1 : Int) (x2 : Int) : LoopCon Try.prog := loopCon Try.prog 2 wra_L0_c [(2, some 1)] (wra_L0_S u0 x1 x2) (wra_L0_T u0 x1 x2) 0 (wra_L0_step x2) (wra_L0_ok u0 x1 x2) (x2.toNat + 1) (x1, 0, u0) (wra_L0_p u0 x1 x2) rfl (wra_L0_v u0 x1 x2) rfl
noncomputable def wra_T (u0 : List (List Ct)) (x1 : Int) (x2 : Int) (v : List (List Ct)) : St := ⟨[.d, .d, .d, .d, .d, .d, .d, .d, .d, .d, .d, .d, .d, .d, .d, .d, .d, .d, .d, .d, .d, .d, .d, .d, .d], [(0, .cells [.ext 2] 199), (1, .gone), (2, .row ([Sh.int IntKind.u8]) 5 v)], 4, [0, 1]⟩
noncomputable def wra_O (v : List (List Ct)) : Out := ⟨.tup [], [(1, .gone), (2, .row ([Sh.int IntKind.u8]) 5 v), (0, .cells [.ext 2] 199)], 4, [0, 1]⟩
noncomputable def wra_rd (ex : Ex) (s : St) : Option (List (List Ct)) × List (Nat × Option Nat) := (some (rL s (hpC s 0 0)), [(2, some 2)])
noncomputable def wra_res (u0 : List (List Ct)) (x1 : Int) (x2 : Int) : Option (List (List Ct)) := bif (wra_L0_p u0 x1 x2) then some ((wra_L0_v u0 x1 x2).snd.snd) else none
set_option maxRecDepth 100000 in
theorem wra_tree {u0 : List (List Ct)} {x1 : Int} {x2 : Int} {v : List (List Ct)} (h : wra_res u0 x1 x2 = some v) : CallOk Try.prog 111 [.sv (.one (.ptr 0 0)), .sv (.one (.val false (.int .u64 x1))), .sv (.one (.val false (.int .i64 x2)))] [(0, .cells [.ext 1] 199), (1, .row [.int .u8] 5 u0)] 2 (wra_O v) :=
  eng_body (C := (⟨consReelV, fun f id nx => bif Nat.beq f 111 then (bif Nat.beq id 0 then some (wra_L0_lc u0 x1 x2) else none) else none, fun f => false, noFacts, fun _ => 0⟩ : Cfg Try.prog)) noFacts_ok (n := 30) (f := 111) (wra_T u0 x1 x2) wra_O wra_rd rfl (fun r => rfl) (by kernel_rfl) h
noncomputable def wra_v (u0 : List (List Ct)) (x1 : Int) (x2 : Int) : List (List Ct) := (wra_res u0 x1 x2).getD default
theorem wra_spec (u0 : List (List Ct)) (x1 : Int) (x2 : Int) (h : ((wra_res u0 x1 x2).isSome) = true) : wra_res u0 x1 x2 = some (wra_v u0 x1 x2) := opt_get h
noncomputable def wra_as : List ASh := [.ptr 199 [.row [.int .u8] 5], .one (.int .u64), .one (.int .i64)]
noncomputable def wra_con : Con Try.prog := conS Try.prog 111 wra_as (fun x => some ((wra_res (x.getD 0 (.i 0)).rows (x.getD 1 (.i 0)).int (x.getD 2 (.i 0)).int).isSome)) (fun x => wra_O (wra_v (x.getD 0 (.i 0)).rows (x.getD 1 (.i 0)).int (x.getD 2 (.i 0)).int))
  (fun x h => ⟨by kernel_rfl, by kernel_rfl, Eq.mp (by kernel_rfl) (@wra_tree ((x.getD 0 (.i 0)).rows) ((x.getD 1 (.i 0)).int) ((x.getD 2 (.i 0)).int) _ (wra_spec ((x.getD 0 (.i 0)).rows) ((x.getD 1 (.i 0)).int) ((x.getD 2 (.i 0)).int) (h _ rfl)))⟩)

noncomputable def wrn_L0_S (x1 : Int) (x2 : Int) (v : Int × Int × List (List Ct)) : St := ⟨[.o (.ptr 0 0), .o (.val false (.int .u64 v.1)), .o (.q x2), .d, .d, .d, .o (.ptr 0 0), .o (.val true (.bool false)), .o (.q x2), .o (.q v.2.1), .d, .d, .d, .d, .d, .d, .d, .d, .d, .d, .d, .d, .d, .d, .d], [(0, .cells [.ext 1] 199), (1, .row ([Sh.int IntKind.u8]) 5 v.2.2)], 2, [0]⟩
noncomputable def wrn_L0_T (x1 : Int) (x2 : Int) (v : Int × Int × List (List Ct)) : Ex × St := ((.exit 0), ⟨(wrn_L0_S x1 x2 v).fr, (wrn_L0_S x1 x2 v).hp, 3, [0]⟩)
noncomputable def wrn_L0_rd (ex : Ex) (s : St) : Option ((Int × Int × List (List Ct)) ⊕ (Int × Int × List (List Ct))) × List (Nat × Option Nat) := match ex with
  | .normal => (some (.inl (rI (frC s 1 0), rI (frC s 9 0), rL s (hpC s 0 0))), [rnOf 1 (hpC s 0 0)])
  | .exit i => bif Nat.beq i 0 then (some (.inr (rI (frC s 1 0), rI (frC s 9 0), rL s (hpC s 0 0))), [(1, some 1)]) else (none, [])
  | _ => (none, [])
noncomputable def wrn_L0_step (x2 : Int) : (Int × Int × List (List Ct)) → Option ((Int × Int × List (List Ct)) ⊕ (Int × Int × List (List Ct))) := fun v => match v with
  | (vi0, vi1, vl0) => bif (decide (vi1 < x2)) then (bif (decide (vl0.length + [[Ct.i (IntKind.u8.wrap vi0)]].length ≤ 9223372036854775807 ∧ (vl0.length + [[Ct.i (IntKind.u8.wrap vi0)]].length) * 1 ≤ 140737488355328)) then some (.inl (vi0.fdiv ((2 : Int) ^ min (Int.toNat (8 : Int)) IntKind.u64.bits), IntKind.i64.wrap (vi1 + (1 : Int)), vl0 ++ [[Ct.i (IntKind.u8.wrap vi0)]])) else none) else some (.inr (vi0, vi1, vl0))
noncomputable def wrn_L0_c : Code := loopC Try.prog 111 0
set_option maxRecDepth 100000 in
theorem wrn_L0_ok (x1 : Int) (x2 : Int) : ∀ v, StepOk Try.prog 1 wrn_L0_c (wrn_L0_S x1 x2) (wrn_L0_T x1 x2) v (wrn_L0_step x2 v) := fun v => match v with | (vi0, vi1, vl0) => eng_step (C := (⟨consReelV, fun _ _ _ => none, fun f => false, noFacts, fun _ => 0⟩ : Cfg Try.prog)) noFacts_ok (n := 30) (f := 111) wrn_L0_rd (fun _ => rfl) (by kernel_rfl)
noncomputable def wrn_L0_p (x1 : Int) (x2 : Int) : Bool := (iter (wrn_L0_step x2) (x2.toNat + 1) (x1, 0, [])).isSome
noncomputable def wrn_L0_v (x1 : Int) (x2 : Int) : Int × Int × List (List Ct) := loopRes (wrn_L0_step x2) (x2.toNat + 1) (x1, 0, [])
noncomputable def wrn_L0_lc (x1 : Int) (x2 : Int) : LoopCon Try.prog := loopCon Try.prog 1 wrn_L0_c [(1, none)] (wrn_L0_S x1 x2) (wrn_L0_T x1 x2) 0 (wrn_L0_step x2) (wrn_L0_ok x1 x2) (x2.toNat + 1) (x1, 0, []) (wrn_L0_p x1 x2) rfl (wrn_L0_v x1 x2) rfl
noncomputable def wrn_T (x1 : Int) (x2 : Int) (v : List (List Ct)) : St := ⟨[.d, .d, .d, .d, .d, .d, .d, .d, .d, .d, .d, .d, .d, .d, .d, .d, .d, .d, .d, .d, .d, .d, .d, .d, .d], [(0, .cells [.ext 1] 199), (1, .row ([Sh.int IntKind.u8]) 5 v)], 3, [0]⟩
noncomputable def wrn_O (v : List (List Ct)) : Out := ⟨.tup [], [(1, .row ([Sh.int IntKind.u8]) 5 v), (0, .cells [.ext 1] 199)], 3, [0]⟩
noncomputable def wrn_rd (ex : Ex) (s : St) : Option (List (List Ct)) × List (Nat × Option Nat) := (some (rL s (hpC s 0 0)), [(1, some 1)])
noncomputable def wrn_res (x1 : Int) (x2 : Int) : Option (List (List Ct)) := bif (wrn_L0_p x1 x2) then some ((wrn_L0_v x1 x2).snd.snd) else none
set_option maxRecDepth 100000 in
theorem wrn_tree {x1 : Int} {x2 : Int} {v : List (List Ct)} (h : wrn_res x1 x2 = some v) : CallOk Try.prog 111 [.sv (.one (.ptr 0 0)), .sv (.one (.val false (.int .u64 x1))), .sv (.one (.val false (.int .i64 x2)))] [(0, .cells [.val true (.slice none 0 0)] 199)] 1 (wrn_O v) :=
  eng_body (C := (⟨consReelV, fun f id nx => bif Nat.beq f 111 then (bif Nat.beq id 0 then some (wrn_L0_lc x1 x2) else none) else none, fun f => false, noFacts, fun _ => 0⟩ : Cfg Try.prog)) noFacts_ok (n := 30) (f := 111) (wrn_T x1 x2) wrn_O wrn_rd rfl (fun r => rfl) (by kernel_rfl) h
noncomputable def wrn_v (x1 : Int) (x2 : Int) : List (List Ct) := (wrn_res x1 x2).getD default
theorem wrn_spec (x1 : Int) (x2 : Int) (h : ((wrn_res x1 x2).isSome) = true) : wrn_res x1 x2 = some (wrn_v x1 x2) := opt_get h
noncomputable def wrn_as : List ASh := [.ptr 199 [.nil], .one (.int .u64), .one (.int .i64)]
noncomputable def wrn_con : Con Try.prog := conS Try.prog 111 wrn_as (fun x => some ((wrn_res (x.getD 1 (.i 0)).int (x.getD 2 (.i 0)).int).isSome)) (fun x => wrn_O (wrn_v (x.getD 1 (.i 0)).int (x.getD 2 (.i 0)).int))
  (fun x h => ⟨by kernel_rfl, by kernel_rfl, Eq.mp (by kernel_rfl) (@wrn_tree ((x.getD 1 (.i 0)).int) ((x.getD 2 (.i 0)).int) _ (wrn_spec ((x.getD 1 (.i 0)).int) ((x.getD 2 (.i 0)).int) (h _ rfl)))⟩)

theorem wra_f : wra_con.f = 111 := rfl
theorem wrn_f : wrn_con.f = 111 := rfl
noncomputable def consJob3 : List (Con Try.prog) := [Con.or wra_con wrn_con (wrn_f.trans wra_f.symm)] ++ consReelV
end Go.Proofs.Ytcpbiijegbbafaa
