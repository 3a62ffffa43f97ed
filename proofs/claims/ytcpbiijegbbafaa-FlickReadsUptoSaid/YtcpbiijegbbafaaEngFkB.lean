/- What size may be. No condition. -/
import Derived.Test.YtcpbiijegbbafaaReelB
import Derived.Test.YtcpbiijegbbafaaEngFk1
set_option linter.unusedVariables false
set_option linter.unusedSimpArgs false
namespace Go.Proofs.Ytcpbiijegbbafaa
open Go.RowKit

noncomputable def rsz_O (v : Bool) : Out := ⟨.sv (.one (.val false (.bool v))), [], 3, []⟩
noncomputable def rsz_rd (out : Out) : Option (Bool) := some (rB (rvC out.v 0 0))
noncomputable def rsz_res (x0 : Int) (x1 : Int) : Option (Bool) := some (bif decide (x0 ≥ (1 : Int)) then bif decide (x0 ≤ (64 : Int)) then bif decide (x1 ≥ (1 : Int)) then decide (x1 ≤ (64 : Int)) else false else false else false)
set_option maxRecDepth 100000 in
theorem rsz_tree {x0 : Int} {x1 : Int} {v : Bool} (h : rsz_res x0 x1 = some v) : CallOk Try.prog 93 [.sv (.one (.val false (.int .i64 x0))), .sv (.one (.val false (.int .i64 x1)))] [] 0 (rsz_O v) :=
  eng_tree (C := (⟨[], fun _ _ _ => none, fun f => false, noFacts, fun _ => 104⟩ : Cfg Try.prog)) noFacts_ok (n := 30) (f := 93) rsz_O rsz_rd rfl (by kernel_rfl) h
noncomputable def rsz_v (x0 : Int) (x1 : Int) : Bool := bif decide (x0 ≥ (1 : Int)) then bif decide (x0 ≤ (64 : Int)) then bif decide (x1 ≥ (1 : Int)) then decide (x1 ≤ (64 : Int)) else false else false else false
theorem rsz_spec (x0 : Int) (x1 : Int) : rsz_res x0 x1 = some (rsz_v x0 x1) := by simp only [rsz_res, rsz_v, cond_some]
noncomputable def rsz_m (args : List RV) (hp : Hp) : Option ((Int × Int) × List Nat) := match args with
  | [.sv (.one (.val _ (.int .i64 x0))), .sv (.one (.val _ (.int .i64 x1)))] => some ((x0, x1), [])
  | _ => none
noncomputable def rsz_con : Con Try.prog := conX Try.prog 93 rsz_m 0 (fun x => [.sv (.one (.val false (.int .i64 x.1))), .sv (.one (.val false (.int .i64 x.2)))]) (fun x => []) (fun x => none) (fun x => rsz_O (rsz_v x.1 x.2))
  (by
    intro args hp x r h
    unfold rsz_m at h
    split at h
    · cases h
      exact ⟨rfl, fun nx => ⟨rfl, (fun i hi => by cases hi), fun id o0 ho => by simp [hlook] at ho⟩⟩
    · cases h)
  (fun x h => ⟨rfl, rfl, rsz_tree (rsz_spec x.1 x.2)⟩)
end Go.Proofs.Ytcpbiijegbbafaa
