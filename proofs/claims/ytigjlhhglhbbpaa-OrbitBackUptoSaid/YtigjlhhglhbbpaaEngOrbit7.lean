/- Times. No condition. -/
import Derived.Test.YtigjlhhglhbbpaaEngOrbit6
set_option linter.unusedVariables false
set_option linter.unusedSimpArgs false
namespace Go.Proofs.Ytigjlhhglhbbpaa
open Go.RowKit

noncomputable def osp_L0_S (x0 : Int) (x1 : Int) (x2 : Int) (v : Int × List (List Ct)) : St := ⟨[.sv (.one (.val false (.int .i64 x0))), .sv (.one (.val false (.int .i64 x1))), .sv (.one (.val false (.int .i64 x2))), .dead, .dead, .dead, .sv (.one (.val true (Value.slice none 0 0))), .sv (.one (.ext 0)), .dead, .sv (.one (.val false (.int .i64 x2))), .sv (.one (.val false (.int .i64 v.1))), .dead, .dead, .dead, .dead, .dead, .dead, .dead, .dead, .dead, .dead, .dead, .dead, .dead, .dead, .dead, .dead, .dead], [(0, .row ([Sh.int IntKind.i64]) 27 v.2)], 1, []⟩
noncomputable def osp_L0_T (x0 : Int) (x1 : Int) (x2 : Int) (v : Int × List (List Ct)) : Ex × St := ((.exit 0), ⟨[.sv (.one (.val false (.int .i64 x0))), .sv (.one (.val false (.int .i64 x1))), .sv (.one (.val false (.int .i64 x2))), .dead, .dead, .dead, .sv (.one (.val true (Value.slice none 0 0))), .sv (.one (.ext 0)), .dead, .sv (.one (.val false (.int .i64 x2))), .sv (.one (.val false (.int .i64 v.1))), .dead, .dead, .dead, .dead, .dead, .dead, .dead, .dead, .dead, .dead, .dead, .dead, .dead, .dead, .dead, .dead, .dead], [(0, .row ([Sh.int IntKind.i64]) 27 v.2)], 2, []⟩)
noncomputable def osp_L0_rd (ex : Ex) (s : St) : Option ((Int × List (List Ct)) ⊕ (Int × List (List Ct))) × List (Nat × Option Nat) := match ex with
  | .normal => (some (.inl (rI (frC s 10 0), rL s (frC s 7 0))), [rnOf 0 (frC s 7 0)])
  | .exit i => bif Nat.beq i 0 then (some (.inr (rI (frC s 10 0), rL s (frC s 7 0))), [(0, some 0)]) else (none, [])
  | _ => (none, [])
noncomputable def osp_L0_step (x0 : Int) (x1 : Int) (x2 : Int) : (Int × List (List Ct)) → Option ((Int × List (List Ct)) ⊕ (Int × List (List Ct))) := fun v => match v with
  | (vi0, vl0) => bif (decide (vi0 < x2)) then (bif (decide (vl0.length + [[Ct.i (lerpS x0 x1 (divS (ofS vi0) (ofS (if (1 : Int) > IntKind.i64.wrap (x2 - (1 : Int)) then (1 : Int) else IntKind.i64.wrap (x2 - (1 : Int))))))]].length ≤ 9223372036854775807 ∧ (vl0.length + [[Ct.i (lerpS x0 x1 (divS (ofS vi0) (ofS (if (1 : Int) > IntKind.i64.wrap (x2 - (1 : Int)) then (1 : Int) else IntKind.i64.wrap (x2 - (1 : Int))))))]].length) * 8 ≤ 140737488355328)) then some (.inl (IntKind.i64.wrap (vi0 + (1 : Int)), vl0 ++ [[Ct.i (lerpS x0 x1 (divS (ofS vi0) (ofS (if (1 : Int) > IntKind.i64.wrap (x2 - (1 : Int)) then (1 : Int) else IntKind.i64.wrap (x2 - (1 : Int))))))]])) else none) else some (.inr (vi0, vl0))
noncomputable def osp_L0_c : Code := loopC Try.prog 104 0
set_option maxRecDepth 100000 in
theorem osp_L0_ok (x0 : Int) (x1 : Int) (x2 : Int) : ∀ v, StepOk Try.prog 0 osp_L0_c (osp_L0_S x0 x1 x2) (osp_L0_T x0 x1 x2) v (osp_L0_step x0 x1 x2 v) := fun v => match v with | (vi0, vl0) => eng_step (C := (⟨consOrbit6, fun _ _ _ => none, fun f => false, noFacts, fun _ => 4⟩ : Cfg Try.prog)) noFacts_ok (n := 30) (f := 104) osp_L0_rd (fun _ => rfl) (by kernel_rfl)
noncomputable def osp_L0_p (x0 : Int) (x1 : Int) (x2 : Int) : Bool := (iter (osp_L0_step x0 x1 x2) (x2.toNat + 1) (0, [])).isSome
noncomputable def osp_L0_v (x0 : Int) (x1 : Int) (x2 : Int) : Int × List (List Ct) := loopRes (osp_L0_step x0 x1 x2) (x2.toNat + 1) (0, [])
noncomputable def osp_L0_lc (x0 : Int) (x1 : Int) (x2 : Int) : LoopCon Try.prog := loopCon Try.prog 0 osp_L0_c [(0, none)] (osp_L0_S x0 x1 x2) (osp_L0_T x0 x1 x2) 0 (osp_L0_step x0 x1 x2) (osp_L0_ok x0 x1 x2) (x2.toNat + 1) (0, []) (osp_L0_p x0 x1 x2) rfl (osp_L0_v x0 x1 x2) rfl
noncomputable def osp_O (v : List (List Ct)) : Out := ⟨.sv (.one (.ext 0)), [(0, .row ([Sh.int IntKind.i64]) 27 v)], 2, []⟩
noncomputable def osp_rd (out : Out) : Option (List (List Ct)) := some (hpL' out.up 0)
noncomputable def osp_res (x0 : Int) (x1 : Int) (x2 : Int) : Option (List (List Ct)) := bif (osp_L0_p x0 x1 x2) then some ((osp_L0_v x0 x1 x2).snd) else none
set_option maxRecDepth 100000 in
theorem osp_tree {x0 : Int} {x1 : Int} {x2 : Int} {v : List (List Ct)} (h : osp_res x0 x1 x2 = some v) : CallOk Try.prog 104 [.sv (.one (.val false (.int .i64 x0))), .sv (.one (.val false (.int .i64 x1))), .sv (.one (.val false (.int .i64 x2)))] [] 0 (osp_O v) :=
  eng_tree (C := (⟨consOrbit6, fun f id nx => bif Nat.beq f 104 then (bif Nat.beq id 0 then some (osp_L0_lc x0 x1 x2) else none) else none, fun f => false, noFacts, fun _ => 4⟩ : Cfg Try.prog)) noFacts_ok (n := 30) (f := 104) osp_O osp_rd rfl (by kernel_rfl) h
noncomputable def osp_v (x0 : Int) (x1 : Int) (x2 : Int) : List (List Ct) := (osp_res x0 x1 x2).getD default
theorem osp_spec (x0 : Int) (x1 : Int) (x2 : Int) (h : ((osp_res x0 x1 x2).isSome) = true) : osp_res x0 x1 x2 = some (osp_v x0 x1 x2) := opt_get h
noncomputable def osp_m (args : List RV) (hp : Hp) : Option ((Int × Int × Int) × List Nat) := match args with
  | [.sv (.one (.val _ (.int .i64 x0))), .sv (.one (.val _ (.int .i64 x1))), .sv (.one (.val _ (.int .i64 x2)))] => some ((x0, x1, x2), [])
  | _ => none
noncomputable def osp_con : Con Try.prog := conX Try.prog 104 osp_m 0 (fun x => [.sv (.one (.val false (.int .i64 x.1))), .sv (.one (.val false (.int .i64 x.2.1))), .sv (.one (.val false (.int .i64 x.2.2)))]) (fun x => []) (fun x => some ((osp_res x.1 x.2.1 x.2.2).isSome)) (fun x => osp_O (osp_v x.1 x.2.1 x.2.2))
  (by
    intro args hp x r h
    unfold osp_m at h
    split at h
    · cases h
      exact ⟨rfl, fun nx => ⟨rfl, (fun i hi => by cases hi), fun id o0 ho => by simp [hlook] at ho⟩⟩
    · cases h)
  (fun x h => ⟨rfl, rfl, osp_tree (osp_spec x.1 x.2.1 x.2.2 (h _ rfl))⟩)

noncomputable def rshr_O (v : Int) : Out := ⟨.sv (.one (.val false (.int .i64 v))), [], 1, []⟩
noncomputable def rshr_rd (out : Out) : Option (Int) := some (rI (rvC out.v 0 0))
noncomputable def rshr_res (x0 : Int) (x1 : Int) : Option (Int) := bif (decide (x1 < (2 : Int))) then (some (divS (ofS x0) (65536 : Int))) else some (divS (ofS x0) (ofS (IntKind.i64.wrap (x1 - (1 : Int)))))
set_option maxRecDepth 100000 in
theorem rshr_tree {x0 : Int} {x1 : Int} {v : Int} (h : rshr_res x0 x1 = some v) : CallOk Try.prog 55 [.sv (.one (.val false (.int .i64 x0))), .sv (.one (.val false (.int .i64 x1)))] [] 0 (rshr_O v) :=
  eng_tree (C := (⟨consOrbit6, fun _ _ _ => none, fun f => false, noFacts, fun _ => 0⟩ : Cfg Try.prog)) noFacts_ok (n := 30) (f := 55) rshr_O rshr_rd rfl (by kernel_rfl) h
noncomputable def rshr_v (x0 : Int) (x1 : Int) : Int := (rshr_res x0 x1).getD default
theorem rshr_spec (x0 : Int) (x1 : Int) (h : ((rshr_res x0 x1).isSome) = true) : rshr_res x0 x1 = some (rshr_v x0 x1) := opt_get h
noncomputable def rshr_m (args : List RV) (hp : Hp) : Option ((Int × Int) × List Nat) := match args with
  | [.sv (.one (.val _ (.int .i64 x0))), .sv (.one (.val _ (.int .i64 x1)))] => some ((x0, x1), [])
  | _ => none
noncomputable def rshr_con : Con Try.prog := conX Try.prog 55 rshr_m 0 (fun x => [.sv (.one (.val false (.int .i64 x.1))), .sv (.one (.val false (.int .i64 x.2)))]) (fun x => []) (fun x => some ((rshr_res x.1 x.2).isSome)) (fun x => rshr_O (rshr_v x.1 x.2))
  (by
    intro args hp x r h
    unfold rshr_m at h
    split at h
    · cases h
      exact ⟨rfl, fun nx => ⟨rfl, (fun i hi => by cases hi), fun id o0 ho => by simp [hlook] at ho⟩⟩
    · cases h)
  (fun x h => ⟨rfl, rfl, rshr_tree (rshr_spec x.1 x.2 (h _ rfl))⟩)
noncomputable def consOrbit7 : List (Con Try.prog) := [osp_con.freezeR.freezeO, rshr_con] ++ consOrbit6
end Go.Proofs.Ytigjlhhglhbbpaa
