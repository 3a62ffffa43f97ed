/- What is held. No condition. -/
import Derived.Test.YtcpbiijegbbafaaEngReel4
set_option linter.unusedVariables false
set_option linter.unusedSimpArgs false
namespace Go.Proofs.Ytcpbiijegbbafaa
open Go.RowKit

noncomputable def heldR_O (v : Int) : Out := ⟨.sv (.one (.val false (.int .i64 v))), [], 2, []⟩
noncomputable def heldR_rd (out : Out) : Option (Int) := some (rI (rvC out.v 0 0))
noncomputable def heldR_res (x0 : Int) : Option (Int) := bif (decide (x0 > (2147483648 : Int))) then (some 2147483648) else bif (decide (x0 < (-2147483648 : Int))) then (some (-2147483648)) else some x0
set_option maxRecDepth 100000 in
theorem heldR_tree {x0 : Int} {v : Int} (h : heldR_res x0 = some v) : CallOk Try.prog 132 [.sv (.one (.val false (.int .i64 x0)))] [] 0 (heldR_O v) :=
  eng_tree (C := (⟨consReel4, fun _ _ _ => none, fun f => false, noFacts, fun _ => 4⟩ : Cfg Try.prog)) noFacts_ok (n := 30) (f := 132) heldR_O heldR_rd rfl (by kernel_rfl) h
noncomputable def heldR_v (x0 : Int) : Int := bif (decide (x0 > (2147483648 : Int))) then (2147483648) else bif (decide (x0 < (-2147483648 : Int))) then ((-2147483648)) else x0
theorem heldR_spec (x0 : Int) : heldR_res x0 = some (heldR_v x0) := by simp only [heldR_res, heldR_v, cond_some]
noncomputable def heldR_m (args : List RV) (hp : Hp) : Option ((Int) × List Nat) := match args with
  | [.sv (.one (.val _ (.int .i64 x0)))] => some (x0, [])
  | _ => none
noncomputable def heldR_con : Con Try.prog := conX Try.prog 132 heldR_m 0 (fun x => [.sv (.one (.val false (.int .i64 x)))]) (fun x => []) (fun x => none) (fun x => heldR_O (heldR_v x))
  (by
    intro args hp x r h
    unfold heldR_m at h
    split at h
    · cases h
      exact ⟨rfl, fun nx => ⟨rfl, (fun i hi => by cases hi), fun id o0 ho => by simp [hlook] at ho⟩⟩
    · cases h)
  (fun x h => ⟨rfl, rfl, heldR_tree (heldR_spec x)⟩)
noncomputable def consReel5 : List (Con Try.prog) := [heldR_con] ++ consReel4
end Go.Proofs.Ytcpbiijegbbafaa
