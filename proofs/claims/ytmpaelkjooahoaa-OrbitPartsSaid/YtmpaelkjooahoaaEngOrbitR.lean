/- Parts, turned. No condition. -/
import Derived.Test.YtmpaelkjooahoaaEngOrbitS
set_option linter.unusedVariables false
set_option linter.unusedSimpArgs false
namespace Go.Proofs.Ytmpaelkjooahoaa
open Go.RowKit

noncomputable def rot_L0_S (x0 : List (List Ct)) (x1 x2 x3 : Int) (v : Int × Int × List (List Ct)) : St := ⟨[.o (.ext 0), .o (.q x1), .o (.q x2), .o (.q x3), .o (CV.fn 83 []), .d, .d, .d, .d, .d, .o (.q v.1), .o (.q v.2.1), .o (.q x2), .o (.q x1), .o (.q (IntKind.i64.wrap (x2 - x1))), .o (.q x3), .o (.q x2), .o (.q (IntKind.i64.wrap (x3 - x2))), .d, .d, .d, .d, .d, .d, .d, .d, .d, .d, .d, .d, .d, .d, .d, .d, .d, .d, .d, .d, .d, .d, .d, .d, .d, .d, .d, .d, .d, .d, .d, .d, .d, .d, .d, .d, .d, .d, .d, .d], [(0, .row ([Sh.int IntKind.i64, Sh.int IntKind.i64, Sh.int IntKind.i64, Sh.int IntKind.i64]) 86 v.2.2)], 1, [0]⟩
noncomputable def rot_L0_T (x0 : List (List Ct)) (x1 x2 x3 : Int) (v : Int × Int × List (List Ct)) : Ex × St := ((.exit 0), ⟨(rot_L0_S x0 x1 x2 x3 v).fr, (rot_L0_S x0 x1 x2 x3 v).hp, 2, [0]⟩)
noncomputable def rot_L0_rd (ex : Ex) (s : St) : Option ((Int × Int × List (List Ct)) ⊕ (Int × Int × List (List Ct))) × List (Nat × Option Nat) := match ex with
  | .normal => (some (.inl (rI (frC s 10 0), rI (frC s 11 0), hpL' s.hp 0)), [])
  | .exit i => bif Nat.beq i 0 then (some (.inr (rI (frC s 10 0), rI (frC s 11 0), hpL' s.hp 0)), []) else (none, [])
  | _ => (none, [])
noncomputable def rot_L0_step (x2 : Int) : (Int × Int × List (List Ct)) → Option ((Int × Int × List (List Ct)) ⊕ (Int × Int × List (List Ct))) := fun v => match v with
  | (vi0, vi1, vl0) => bif (vi0 != vi1) then (bif (decide (vi0 > vi1)) then (bif ((swr_res vl0 (IntKind.i64.wrap (x2 - vi0)) x2 vi1).isSome) then some (.inl (IntKind.i64.wrap (vi0 - vi1), vi1, swr_v vl0 (IntKind.i64.wrap (x2 - vi0)) x2 vi1)) else none) else bif ((swr_res vl0 (IntKind.i64.wrap (x2 - vi0)) (IntKind.i64.wrap (IntKind.i64.wrap (x2 + vi1) - vi0)) vi0).isSome) then some (.inl (vi0, IntKind.i64.wrap (vi1 - vi0), swr_v vl0 (IntKind.i64.wrap (x2 - vi0)) (IntKind.i64.wrap (IntKind.i64.wrap (x2 + vi1) - vi0)) vi0)) else none) else some (.inr (vi0, vi1, vl0))
noncomputable def rot_L0_c : Code := loopC Try.prog 109 0
set_option maxRecDepth 100000 in
theorem rot_L0_ok (x0 : List (List Ct)) (x1 x2 x3 : Int) : ∀ v, StepOk Try.prog 1 rot_L0_c (rot_L0_S x0 x1 x2 x3) (rot_L0_T x0 x1 x2 x3) v (rot_L0_step x2 v) := fun v => match v with | (vi0, vi1, vl0) => eng_step (C := (⟨consOrbitS, fun _ _ _ => none, fun f => false, noFacts, fun _ => 0⟩ : Cfg Try.prog)) noFacts_ok (n := 30) (f := 109) rot_L0_rd (fun _ => rfl) (by kernel_rfl)
noncomputable def rot_L0_p (x0 : List (List Ct)) (x1 x2 x3 : Int) : Bool := (iter (rot_L0_step x2) (x3.toNat + 1) ((IntKind.i64.wrap (x2 - x1)), (IntKind.i64.wrap (x3 - x2)), x0)).isSome
noncomputable def rot_L0_v (x0 : List (List Ct)) (x1 x2 x3 : Int) : Int × Int × List (List Ct) := loopRes (rot_L0_step x2) (x3.toNat + 1) ((IntKind.i64.wrap (x2 - x1)), (IntKind.i64.wrap (x3 - x2)), x0)
set_option maxRecDepth 100000 in
noncomputable def rot_L0_lc (x0 : List (List Ct)) (x1 x2 x3 : Int) : LoopCon Try.prog := loopCon Try.prog 1 rot_L0_c [] (rot_L0_S x0 x1 x2 x3) (rot_L0_T x0 x1 x2 x3) 0 (rot_L0_step x2) (rot_L0_ok x0 x1 x2 x3) (x3.toNat + 1) ((IntKind.i64.wrap (x2 - x1)), (IntKind.i64.wrap (x3 - x2)), x0) (rot_L0_p x0 x1 x2 x3) rfl (rot_L0_v x0 x1 x2 x3) rfl
noncomputable def rot_T (x0 : List (List Ct)) (x1 x2 x3 : Int) (v : List (List Ct)) : St := ⟨[.d, .d, .d, .d, .d, .d, .d, .d, .d, .d, .d, .d, .d, .d, .d, .d, .d, .d, .d, .d, .d, .d, .d, .d, .d, .d, .d, .d, .d, .d, .d, .d, .d, .d, .d, .d, .d, .d, .d, .d, .d, .d, .d, .d, .d, .d, .d, .d, .d, .d, .d, .d, .d, .d, .d, .d, .d, .d], [(0, .row ([Sh.int IntKind.i64, Sh.int IntKind.i64, Sh.int IntKind.i64, Sh.int IntKind.i64]) 86 v)], 3, [0]⟩
noncomputable def rot_O (v : List (List Ct)) : Out := ⟨.tup [], [(0, .row ([Sh.int IntKind.i64, Sh.int IntKind.i64, Sh.int IntKind.i64, Sh.int IntKind.i64]) 86 v)], 3, [0]⟩
noncomputable def rot_rd (ex : Ex) (s : St) : Option (List (List Ct)) × List (Nat × Option Nat) := (some (hpL' s.hp 0), [])
noncomputable def rot_res (x0 : List (List Ct)) (x1 x2 x3 : Int) : Option (List (List Ct)) := bif (rot_L0_p x0 x1 x2 x3) then bif ((swr_res (rot_L0_v x0 x1 x2 x3).snd.snd (IntKind.i64.wrap (x2 - (rot_L0_v x0 x1 x2 x3).fst)) x2 (rot_L0_v x0 x1 x2 x3).fst).isSome) then some (swr_v (rot_L0_v x0 x1 x2 x3).snd.snd (IntKind.i64.wrap (x2 - (rot_L0_v x0 x1 x2 x3).fst)) x2 (rot_L0_v x0 x1 x2 x3).fst) else none else none
set_option maxRecDepth 100000 in
theorem rot_tree {x0 : List (List Ct)} {x1 x2 x3 : Int} {v : List (List Ct)} (h : rot_res x0 x1 x2 x3 = some v) : CallOk Try.prog 109 [.sv (.one (.ext 0)), .sv (.one (.val false (.int .i64 x1))), .sv (.one (.val false (.int .i64 x2))), .sv (.one (.val false (.int .i64 x3))), .sv (.one (.fn 83 []))] [(0, .row [.int .i64, .int .i64, .int .i64, .int .i64] 86 x0)] 1 (rot_O v) :=
  eng_body (C := (⟨consOrbitS, fun f id nx => bif Nat.beq f 109 then (bif Nat.beq id 0 then some (rot_L0_lc x0 x1 x2 x3) else none) else none, fun f => false, noFacts, fun _ => 0⟩ : Cfg Try.prog)) noFacts_ok (n := 30) (f := 109) (rot_T x0 x1 x2 x3) rot_O rot_rd rfl (fun r => rfl) (by kernel_rfl) h
noncomputable def rot_v (x0 : List (List Ct)) (x1 x2 x3 : Int) : List (List Ct) := (rot_res x0 x1 x2 x3).getD default
theorem rot_spec (x0 : List (List Ct)) (x1 x2 x3 : Int) (h : ((rot_res x0 x1 x2 x3).isSome) = true) : rot_res x0 x1 x2 x3 = some (rot_v x0 x1 x2 x3) := opt_get h
noncomputable def rot_as : List ASh := [.one (.row [.int .i64, .int .i64, .int .i64, .int .i64] 86), .one (.int .i64), .one (.int .i64), .one (.int .i64), .one (.fn 83)]
noncomputable def rot_con : Con Try.prog := conS Try.prog 109 rot_as (fun x => some ((rot_res (x.getD 0 (.i 0)).rows (x.getD 1 (.i 0)).int (x.getD 2 (.i 0)).int (x.getD 3 (.i 0)).int).isSome)) (fun x => rot_O (rot_v (x.getD 0 (.i 0)).rows (x.getD 1 (.i 0)).int (x.getD 2 (.i 0)).int (x.getD 3 (.i 0)).int))
  (fun x h => ⟨by kernel_rfl, by kernel_rfl, Eq.mp (by kernel_rfl) (@rot_tree ((x.getD 0 (.i 0)).rows) ((x.getD 1 (.i 0)).int) ((x.getD 2 (.i 0)).int) ((x.getD 3 (.i 0)).int) _ (rot_spec ((x.getD 0 (.i 0)).rows) ((x.getD 1 (.i 0)).int) ((x.getD 2 (.i 0)).int) ((x.getD 3 (.i 0)).int) (h _ rfl)))⟩)
noncomputable def consOrbitR : List (Con Try.prog) := [rot_con] ++ consOrbitS
end Go.Proofs.Ytmpaelkjooahoaa
