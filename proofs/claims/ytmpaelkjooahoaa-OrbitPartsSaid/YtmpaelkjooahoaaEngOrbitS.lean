/- Parts, exchanged. No condition. -/
import Derived.Test.YtmpaelkjooahoaaEngOrbit2
set_option linter.unusedVariables false
set_option linter.unusedSimpArgs false
namespace Go.Proofs.Ytmpaelkjooahoaa
open Go.RowKit

noncomputable def swr_L0_S (x0 : List (List Ct)) (x1 x2 x3 : Int) (v : Int × List (List Ct)) : St := ⟨[.o (.ext 0), .o (.q x1), .o (.q x2), .o (.q x3), .o (CV.fn 83 []), .d, .d, .d, .d, .d, .o (.q v.1), .d, .d, .d, .d, .d, .d, .d, .d, .d, .d, .d, .d, .d, .d, .d, .d, .d, .d, .d, .d, .d, .d, .d, .d, .d, .d, .d], [(0, .row ([Sh.int IntKind.i64, Sh.int IntKind.i64, Sh.int IntKind.i64, Sh.int IntKind.i64]) 86 v.2)], 1, [0]⟩
noncomputable def swr_L0_T (x0 : List (List Ct)) (x1 x2 x3 : Int) (v : Int × List (List Ct)) : Ex × St := ((.exit 0), ⟨(swr_L0_S x0 x1 x2 x3 v).fr, (swr_L0_S x0 x1 x2 x3 v).hp, 2, [0]⟩)
noncomputable def swr_L0_rd (ex : Ex) (s : St) : Option ((Int × List (List Ct)) ⊕ (Int × List (List Ct))) × List (Nat × Option Nat) := match ex with
  | .normal => (some (.inl (rI (frC s 10 0), hpL' s.hp 0)), [])
  | .exit i => bif Nat.beq i 0 then (some (.inr (rI (frC s 10 0), hpL' s.hp 0)), []) else (none, [])
  | _ => (none, [])
noncomputable def swr_L0_step (x1 x2 x3 : Int) : (Int × List (List Ct)) → Option ((Int × List (List Ct)) ⊕ (Int × List (List Ct))) := fun v => match v with
  | (vi0, vl0) => bif (decide (vi0 < x3)) then (bif (decide ((0 : Int) ≤ IntKind.i64.wrap (x2 + vi0) ∧ IntKind.i64.wrap (x2 + vi0) < (↑vl0.length : Int))) then bif (decide ((0 : Int) ≤ IntKind.i64.wrap (x1 + vi0) ∧ IntKind.i64.wrap (x1 + vi0) < (↑vl0.length : Int))) then bif (decide ((0 : Int) ≤ IntKind.i64.wrap (x1 + vi0) ∧ IntKind.i64.wrap (x1 + vi0) < (↑vl0.length : Int))) then bif (decide ((0 : Int) ≤ IntKind.i64.wrap (x2 + vi0) ∧ IntKind.i64.wrap (x2 + vi0) < (↑(vl0.set (IntKind.i64.wrap (x1 + vi0)).toNat (updRow 4 0 [Ct.i (rd vl0 (IntKind.i64.wrap (x2 + vi0)).toNat 0).int, Ct.i (rd vl0 (IntKind.i64.wrap (x2 + vi0)).toNat 1).int, Ct.i (rd vl0 (IntKind.i64.wrap (x2 + vi0)).toNat 2).int, Ct.i (rd vl0 (IntKind.i64.wrap (x2 + vi0)).toNat 3).int] (vl0.getD (IntKind.i64.wrap (x1 + vi0)).toNat []))).length : Int))) then some (.inl (IntKind.i64.wrap (vi0 + (1 : Int)), (vl0.set (IntKind.i64.wrap (x1 + vi0)).toNat (updRow 4 0 [Ct.i (rd vl0 (IntKind.i64.wrap (x2 + vi0)).toNat 0).int, Ct.i (rd vl0 (IntKind.i64.wrap (x2 + vi0)).toNat 1).int, Ct.i (rd vl0 (IntKind.i64.wrap (x2 + vi0)).toNat 2).int, Ct.i (rd vl0 (IntKind.i64.wrap (x2 + vi0)).toNat 3).int] (vl0.getD (IntKind.i64.wrap (x1 + vi0)).toNat []))).set (IntKind.i64.wrap (x2 + vi0)).toNat (updRow 4 0 [Ct.i (rd vl0 (IntKind.i64.wrap (x1 + vi0)).toNat 0).int, Ct.i (rd vl0 (IntKind.i64.wrap (x1 + vi0)).toNat 1).int, Ct.i (rd vl0 (IntKind.i64.wrap (x1 + vi0)).toNat 2).int, Ct.i (rd vl0 (IntKind.i64.wrap (x1 + vi0)).toNat 3).int] ((vl0.set (IntKind.i64.wrap (x1 + vi0)).toNat (updRow 4 0 [Ct.i (rd vl0 (IntKind.i64.wrap (x2 + vi0)).toNat 0).int, Ct.i (rd vl0 (IntKind.i64.wrap (x2 + vi0)).toNat 1).int, Ct.i (rd vl0 (IntKind.i64.wrap (x2 + vi0)).toNat 2).int, Ct.i (rd vl0 (IntKind.i64.wrap (x2 + vi0)).toNat 3).int] (vl0.getD (IntKind.i64.wrap (x1 + vi0)).toNat []))).getD (IntKind.i64.wrap (x2 + vi0)).toNat [])))) else none else none else none else none) else some (.inr (vi0, vl0))
noncomputable def swr_L0_c : Code := loopC Try.prog 110 0
set_option maxRecDepth 100000 in
theorem swr_L0_ok (x0 : List (List Ct)) (x1 x2 x3 : Int) : ∀ v, StepOk Try.prog 1 swr_L0_c (swr_L0_S x0 x1 x2 x3) (swr_L0_T x0 x1 x2 x3) v (swr_L0_step x1 x2 x3 v) := fun v => match v with | (vi0, vl0) => eng_step (C := (⟨consOrbit2, fun _ _ _ => none, fun f => false, noFacts, fun _ => 0⟩ : Cfg Try.prog)) noFacts_ok (n := 30) (f := 110) swr_L0_rd (fun _ => rfl) (by kernel_rfl)
noncomputable def swr_L0_p (x0 : List (List Ct)) (x1 x2 x3 : Int) : Bool := (iter (swr_L0_step x1 x2 x3) (x3.toNat + 1) (0, x0)).isSome
noncomputable def swr_L0_v (x0 : List (List Ct)) (x1 x2 x3 : Int) : Int × List (List Ct) := loopRes (swr_L0_step x1 x2 x3) (x3.toNat + 1) (0, x0)
set_option maxRecDepth 100000 in
noncomputable def swr_L0_lc (x0 : List (List Ct)) (x1 x2 x3 : Int) : LoopCon Try.prog := loopCon Try.prog 1 swr_L0_c [] (swr_L0_S x0 x1 x2 x3) (swr_L0_T x0 x1 x2 x3) 0 (swr_L0_step x1 x2 x3) (swr_L0_ok x0 x1 x2 x3) (x3.toNat + 1) (0, x0) (swr_L0_p x0 x1 x2 x3) rfl (swr_L0_v x0 x1 x2 x3) rfl
noncomputable def swr_T (x0 : List (List Ct)) (x1 x2 x3 : Int) (v : List (List Ct)) : St := ⟨[.d, .d, .d, .d, .d, .d, .d, .d, .d, .d, .d, .d, .d, .d, .d, .d, .d, .d, .d, .d, .d, .d, .d, .d, .d, .d, .d, .d, .d, .d, .d, .d, .d, .d, .d, .d, .d, .d], [(0, .row ([Sh.int IntKind.i64, Sh.int IntKind.i64, Sh.int IntKind.i64, Sh.int IntKind.i64]) 86 v)], 2, [0]⟩
noncomputable def swr_O (v : List (List Ct)) : Out := ⟨.tup [], [(0, .row ([Sh.int IntKind.i64, Sh.int IntKind.i64, Sh.int IntKind.i64, Sh.int IntKind.i64]) 86 v)], 2, [0]⟩
noncomputable def swr_rd (ex : Ex) (s : St) : Option (List (List Ct)) × List (Nat × Option Nat) := (some (hpL' s.hp 0), [])
noncomputable def swr_res (x0 : List (List Ct)) (x1 x2 x3 : Int) : Option (List (List Ct)) := bif (swr_L0_p x0 x1 x2 x3) then some ((swr_L0_v x0 x1 x2 x3).snd) else none
set_option maxRecDepth 100000 in
theorem swr_tree {x0 : List (List Ct)} {x1 x2 x3 : Int} {v : List (List Ct)} (h : swr_res x0 x1 x2 x3 = some v) : CallOk Try.prog 110 [.sv (.one (.ext 0)), .sv (.one (.val false (.int .i64 x1))), .sv (.one (.val false (.int .i64 x2))), .sv (.one (.val false (.int .i64 x3))), .sv (.one (.fn 83 []))] [(0, .row [.int .i64, .int .i64, .int .i64, .int .i64] 86 x0)] 1 (swr_O v) :=
  eng_body (C := (⟨consOrbit2, fun f id nx => bif Nat.beq f 110 then (bif Nat.beq id 0 then some (swr_L0_lc x0 x1 x2 x3) else none) else none, fun f => false, noFacts, fun _ => 0⟩ : Cfg Try.prog)) noFacts_ok (n := 30) (f := 110) (swr_T x0 x1 x2 x3) swr_O swr_rd rfl (fun r => rfl) (by kernel_rfl) h
noncomputable def swr_v (x0 : List (List Ct)) (x1 x2 x3 : Int) : List (List Ct) := (swr_res x0 x1 x2 x3).getD default
theorem swr_spec (x0 : List (List Ct)) (x1 x2 x3 : Int) (h : ((swr_res x0 x1 x2 x3).isSome) = true) : swr_res x0 x1 x2 x3 = some (swr_v x0 x1 x2 x3) := opt_get h
noncomputable def swr_as : List ASh := [.one (.row [.int .i64, .int .i64, .int .i64, .int .i64] 86), .one (.int .i64), .one (.int .i64), .one (.int .i64), .one (.fn 83)]
noncomputable def swr_con : Con Try.prog := conS Try.prog 110 swr_as (fun x => some ((swr_res (x.getD 0 (.i 0)).rows (x.getD 1 (.i 0)).int (x.getD 2 (.i 0)).int (x.getD 3 (.i 0)).int).isSome)) (fun x => swr_O (swr_v (x.getD 0 (.i 0)).rows (x.getD 1 (.i 0)).int (x.getD 2 (.i 0)).int (x.getD 3 (.i 0)).int))
  (fun x h => ⟨by kernel_rfl, by kernel_rfl, Eq.mp (by kernel_rfl) (@swr_tree ((x.getD 0 (.i 0)).rows) ((x.getD 1 (.i 0)).int) ((x.getD 2 (.i 0)).int) ((x.getD 3 (.i 0)).int) _ (swr_spec ((x.getD 0 (.i 0)).rows) ((x.getD 1 (.i 0)).int) ((x.getD 2 (.i 0)).int) ((x.getD 3 (.i 0)).int) (h _ rfl)))⟩)
noncomputable def consOrbitS : List (Con Try.prog) := [swr_con] ++ consOrbit2
end Go.Proofs.Ytmpaelkjooahoaa
