/- Insertion into what is sorted. No condition. -/
import Derived.Test.YtmpaelkjooahoaaEngOrbit2
set_option linter.unusedVariables false
set_option linter.unusedSimpArgs false
namespace Go.Proofs.Ytmpaelkjooahoaa
open Go.RowKit

noncomputable def ins_L2_S (x1 x2 vi0 : Int) (vl0 : List (List Ct)) (v : Int × List (List Ct)) : St := ⟨[.o (.ext 0), .o (.q x1), .o (.q x2), .o (CV.fn 83 []), .d, .d, .d, .d, .o (.q vi0), .o (.q v.1), .o (.q x1), .o (.q (IntKind.i64.wrap (x1 + (1 : Int)))), .o (.q vi0), .o (.q x2), .o (.val true (.bool true)), .d, .d, .o (.q vi0), .d, .d, .d, .d, .d, .d, .d, .d, .d, .d, .d, .d, .d, .d, .d, .d, .d, .d, .d, .d, .d, .d, .d, .d, .d, .d, .d, .d, .d, .d, .d, .d, .d, .d, .d], [(0, .row ([Sh.int IntKind.i64, Sh.int IntKind.i64, Sh.int IntKind.i64, Sh.int IntKind.i64]) 86 v.2)], 2, [0]⟩
noncomputable def ins_L2_T (x1 x2 vi0 : Int) (vl0 : List (List Ct)) (v : Int × List (List Ct)) : Ex × St := ((.exit 2), ⟨(ins_L2_S x1 x2 vi0 vl0 v).fr, (ins_L2_S x1 x2 vi0 vl0 v).hp, 9, [0]⟩)
noncomputable def ins_L2_rd (ex : Ex) (s : St) : Option ((Int × List (List Ct)) ⊕ (Int × List (List Ct))) × List (Nat × Option Nat) := match ex with
  | .normal => (some (.inl (rI (frC s 9 0), hpL' s.hp 0)), [])
  | .exit i => bif Nat.beq i 2 then (some (.inr (rI (frC s 9 0), hpL' s.hp 0)), []) else (none, [])
  | _ => (none, [])
noncomputable def ins_L2_step (x1 : Int) : (Int × List (List Ct)) → Option ((Int × List (List Ct)) ⊕ (Int × List (List Ct))) := fun v => match v with
  | (wi0, wl0) => bif (decide (wi0 > x1)) then (bif (decide ((0 : Int) ≤ wi0 ∧ wi0 < (↑wl0.length : Int))) then bif (decide ((0 : Int) ≤ IntKind.i64.wrap (wi0 - (1 : Int)) ∧ IntKind.i64.wrap (wi0 - (1 : Int)) < (↑wl0.length : Int))) then bif (decide ((rd wl0 wi0.toNat 0).int < (rd wl0 (IntKind.i64.wrap (wi0 - (1 : Int))).toNat 0).int)) then (bif (decide ((0 : Int) ≤ IntKind.i64.wrap (wi0 - (1 : Int)) ∧ IntKind.i64.wrap (wi0 - (1 : Int)) < (↑wl0.length : Int))) then bif (decide ((0 : Int) ≤ wi0 ∧ wi0 < (↑wl0.length : Int))) then bif (decide ((0 : Int) ≤ wi0 ∧ wi0 < (↑wl0.length : Int))) then bif (decide ((0 : Int) ≤ IntKind.i64.wrap (wi0 - (1 : Int)) ∧ IntKind.i64.wrap (wi0 - (1 : Int)) < (↑(wl0.set wi0.toNat (updRow 4 0 [Ct.i (rd wl0 (IntKind.i64.wrap (wi0 - (1 : Int))).toNat 0).int, Ct.i (rd wl0 (IntKind.i64.wrap (wi0 - (1 : Int))).toNat 1).int, Ct.i (rd wl0 (IntKind.i64.wrap (wi0 - (1 : Int))).toNat 2).int, Ct.i (rd wl0 (IntKind.i64.wrap (wi0 - (1 : Int))).toNat 3).int] (wl0.getD wi0.toNat []))).length : Int))) then some (.inl (IntKind.i64.wrap (wi0 - (1 : Int)), (wl0.set wi0.toNat (updRow 4 0 [Ct.i (rd wl0 (IntKind.i64.wrap (wi0 - (1 : Int))).toNat 0).int, Ct.i (rd wl0 (IntKind.i64.wrap (wi0 - (1 : Int))).toNat 1).int, Ct.i (rd wl0 (IntKind.i64.wrap (wi0 - (1 : Int))).toNat 2).int, Ct.i (rd wl0 (IntKind.i64.wrap (wi0 - (1 : Int))).toNat 3).int] (wl0.getD wi0.toNat []))).set (IntKind.i64.wrap (wi0 - (1 : Int))).toNat (updRow 4 0 [Ct.i (rd wl0 wi0.toNat 0).int, Ct.i (rd wl0 wi0.toNat 1).int, Ct.i (rd wl0 wi0.toNat 2).int, Ct.i (rd wl0 wi0.toNat 3).int] ((wl0.set wi0.toNat (updRow 4 0 [Ct.i (rd wl0 (IntKind.i64.wrap (wi0 - (1 : Int))).toNat 0).int, Ct.i (rd wl0 (IntKind.i64.wrap (wi0 - (1 : Int))).toNat 1).int, Ct.i (rd wl0 (IntKind.i64.wrap (wi0 - (1 : Int))).toNat 2).int, Ct.i (rd wl0 (IntKind.i64.wrap (wi0 - (1 : Int))).toNat 3).int] (wl0.getD wi0.toNat []))).getD (IntKind.i64.wrap (wi0 - (1 : Int))).toNat [])))) else none else none else none else none) else bif (decide ((rd wl0 wi0.toNat 0).int > (rd wl0 (IntKind.i64.wrap (wi0 - (1 : Int))).toNat 0).int)) then (some (.inr (wi0, wl0))) else some (.inr (wi0, wl0)) else none else none) else some (.inr (wi0, wl0))
noncomputable def ins_L2_c : Code := loopC Try.prog 105 2
set_option maxRecDepth 100000 in
theorem ins_L2_ok (x1 x2 vi0 : Int) (vl0 : List (List Ct)) : ∀ v, StepOk Try.prog 1 ins_L2_c (ins_L2_S x1 x2 vi0 vl0) (ins_L2_T x1 x2 vi0 vl0) v (ins_L2_step x1 v) := fun v => match v with | (wi0, wl0) => eng_step (C := (⟨consOrbit2, fun _ _ _ => none, fun f => false, noFacts, fun _ => 0⟩ : Cfg Try.prog)) noFacts_ok (n := 30) (f := 105) ins_L2_rd (fun _ => rfl) (by kernel_rfl)
noncomputable def ins_L2_p (x1 x2 vi0 : Int) (vl0 : List (List Ct)) : Bool := (iter (ins_L2_step x1) (x2.toNat + 1) (vi0, vl0)).isSome
noncomputable def ins_L2_v (x1 x2 vi0 : Int) (vl0 : List (List Ct)) : Int × List (List Ct) := loopRes (ins_L2_step x1) (x2.toNat + 1) (vi0, vl0)
set_option maxRecDepth 100000 in
noncomputable def ins_L2_lc (x1 x2 vi0 : Int) (vl0 : List (List Ct)) : LoopCon Try.prog := loopCon Try.prog 1 ins_L2_c [] (ins_L2_S x1 x2 vi0 vl0) (ins_L2_T x1 x2 vi0 vl0) 2 (ins_L2_step x1) (ins_L2_ok x1 x2 vi0 vl0) (x2.toNat + 1) (vi0, vl0) (ins_L2_p x1 x2 vi0 vl0) rfl (ins_L2_v x1 x2 vi0 vl0) rfl
noncomputable def ins_L0_S (x0 : List (List Ct)) (x1 : Int) (x2 : Int) (v : Int × List (List Ct)) : St := ⟨[.o (.ext 0), .o (.q x1), .o (.q x2), .o (CV.fn 83 []), .d, .d, .d, .d, .o (.q v.1), .d, .o (.q x1), .o (.q (IntKind.i64.wrap (x1 + (1 : Int)))), .d, .d, .d, .d, .d, .d, .d, .d, .d, .d, .d, .d, .d, .d, .d, .d, .d, .d, .d, .d, .d, .d, .d, .d, .d, .d, .d, .d, .d, .d, .d, .d, .d, .d, .d, .d, .d, .d, .d, .d, .d], [(0, .row ([Sh.int IntKind.i64, Sh.int IntKind.i64, Sh.int IntKind.i64, Sh.int IntKind.i64]) 86 v.2)], 1, [0]⟩
noncomputable def ins_L0_T (x0 : List (List Ct)) (x1 : Int) (x2 : Int) (v : Int × List (List Ct)) : Ex × St := ((.exit 0), ⟨(ins_L0_S x0 x1 x2 v).fr, (ins_L0_S x0 x1 x2 v).hp, 2, [0]⟩)
noncomputable def ins_L0_rd (ex : Ex) (s : St) : Option ((Int × List (List Ct)) ⊕ (Int × List (List Ct))) × List (Nat × Option Nat) := match ex with
  | .normal => (some (.inl (rI (frC s 8 0), hpL' s.hp 0)), [])
  | .exit i => bif Nat.beq i 0 then (some (.inr (rI (frC s 8 0), hpL' s.hp 0)), []) else (none, [])
  | _ => (none, [])
noncomputable def ins_L0_step (x1 : Int) (x2 : Int) : (Int × List (List Ct)) → Option ((Int × List (List Ct)) ⊕ (Int × List (List Ct))) := fun v => match v with
  | (vi0, vl0) => bif (decide (vi0 < x2)) then (bif (ins_L2_p x1 x2 vi0 vl0) then some (.inl (IntKind.i64.wrap (vi0 + (1 : Int)), (ins_L2_v x1 x2 vi0 vl0).snd)) else none) else some (.inr (vi0, vl0))
noncomputable def ins_L0_c : Code := loopC Try.prog 105 0
set_option maxRecDepth 100000 in
theorem ins_L0_ok (x0 : List (List Ct)) (x1 : Int) (x2 : Int) : ∀ v, StepOk Try.prog 1 ins_L0_c (ins_L0_S x0 x1 x2) (ins_L0_T x0 x1 x2) v (ins_L0_step x1 x2 v) := fun v => match v with | (vi0, vl0) => eng_step (C := (⟨consOrbit2, fun f id nx => bif Nat.beq f 105 then (bif Nat.beq id 2 then some (ins_L2_lc x1 x2 vi0 vl0) else none) else none, fun f => false, noFacts, fun _ => 0⟩ : Cfg Try.prog)) noFacts_ok (n := 30) (f := 105) ins_L0_rd (fun _ => rfl) (by kernel_rfl)
noncomputable def ins_L0_p (x0 : List (List Ct)) (x1 : Int) (x2 : Int) : Bool := (iter (ins_L0_step x1 x2) (x2.toNat + 1) ((IntKind.i64.wrap (x1 + (1 : Int))), x0)).isSome
noncomputable def ins_L0_v (x0 : List (List Ct)) (x1 : Int) (x2 : Int) : Int × List (List Ct) := loopRes (ins_L0_step x1 x2) (x2.toNat + 1) ((IntKind.i64.wrap (x1 + (1 : Int))), x0)
set_option maxRecDepth 100000 in
noncomputable def ins_L0_lc (x0 : List (List Ct)) (x1 : Int) (x2 : Int) : LoopCon Try.prog := loopCon Try.prog 1 ins_L0_c [] (ins_L0_S x0 x1 x2) (ins_L0_T x0 x1 x2) 0 (ins_L0_step x1 x2) (ins_L0_ok x0 x1 x2) (x2.toNat + 1) ((IntKind.i64.wrap (x1 + (1 : Int))), x0) (ins_L0_p x0 x1 x2) rfl (ins_L0_v x0 x1 x2) rfl
noncomputable def ins_T (x0 : List (List Ct)) (x1 : Int) (x2 : Int) (v : List (List Ct)) : St := ⟨[.d, .d, .d, .d, .d, .d, .d, .d, .d, .d, .d, .d, .d, .d, .d, .d, .d, .d, .d, .d, .d, .d, .d, .d, .d, .d, .d, .d, .d, .d, .d, .d, .d, .d, .d, .d, .d, .d, .d, .d, .d, .d, .d, .d, .d, .d, .d, .d, .d, .d, .d, .d, .d], [(0, .row ([Sh.int IntKind.i64, Sh.int IntKind.i64, Sh.int IntKind.i64, Sh.int IntKind.i64]) 86 v)], 2, [0]⟩
noncomputable def ins_O (v : List (List Ct)) : Out := ⟨.tup [], [(0, .row ([Sh.int IntKind.i64, Sh.int IntKind.i64, Sh.int IntKind.i64, Sh.int IntKind.i64]) 86 v)], 2, [0]⟩
noncomputable def ins_rd (ex : Ex) (s : St) : Option (List (List Ct)) × List (Nat × Option Nat) := (some (hpL' s.hp 0), [])
noncomputable def ins_res (x0 : List (List Ct)) (x1 : Int) (x2 : Int) : Option (List (List Ct)) := bif (ins_L0_p x0 x1 x2) then some ((ins_L0_v x0 x1 x2).snd) else none
set_option maxRecDepth 100000 in
theorem ins_tree {x0 : List (List Ct)} {x1 : Int} {x2 : Int} {v : List (List Ct)} (h : ins_res x0 x1 x2 = some v) : CallOk Try.prog 105 [.sv (.one (.ext 0)), .sv (.one (.val false (.int .i64 x1))), .sv (.one (.val false (.int .i64 x2))), .sv (.one (.fn 83 []))] [(0, .row [.int .i64, .int .i64, .int .i64, .int .i64] 86 x0)] 1 (ins_O v) :=
  eng_body (C := (⟨consOrbit2, fun f id nx => bif Nat.beq f 105 then (bif Nat.beq id 0 then some (ins_L0_lc x0 x1 x2) else none) else none, fun f => false, noFacts, fun _ => 0⟩ : Cfg Try.prog)) noFacts_ok (n := 30) (f := 105) (ins_T x0 x1 x2) ins_O ins_rd rfl (fun r => rfl) (by kernel_rfl) h
noncomputable def ins_v (x0 : List (List Ct)) (x1 : Int) (x2 : Int) : List (List Ct) := (ins_res x0 x1 x2).getD default
theorem ins_spec (x0 : List (List Ct)) (x1 : Int) (x2 : Int) (h : ((ins_res x0 x1 x2).isSome) = true) : ins_res x0 x1 x2 = some (ins_v x0 x1 x2) := opt_get h
noncomputable def ins_as : List ASh := [.one (.row [.int .i64, .int .i64, .int .i64, .int .i64] 86), .one (.int .i64), .one (.int .i64), .one (.fn 83)]
noncomputable def ins_con : Con Try.prog := conS Try.prog 105 ins_as (fun x => some ((ins_res (x.getD 0 (.i 0)).rows (x.getD 1 (.i 0)).int (x.getD 2 (.i 0)).int).isSome)) (fun x => ins_O (ins_v (x.getD 0 (.i 0)).rows (x.getD 1 (.i 0)).int (x.getD 2 (.i 0)).int))
  (fun x h => ⟨by kernel_rfl, by kernel_rfl, Eq.mp (by kernel_rfl) (@ins_tree ((x.getD 0 (.i 0)).rows) ((x.getD 1 (.i 0)).int) ((x.getD 2 (.i 0)).int) _ (ins_spec ((x.getD 0 (.i 0)).rows) ((x.getD 1 (.i 0)).int) ((x.getD 2 (.i 0)).int) (h _ rfl)))⟩)
noncomputable def consOrbitJ : List (Con Try.prog) := [ins_con] ++ consOrbit2
end Go.Proofs.Ytmpaelkjooahoaa
