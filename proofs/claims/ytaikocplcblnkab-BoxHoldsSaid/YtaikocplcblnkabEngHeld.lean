/- Whether a box is held. No condition. -/
import Derived.Test.YtaikocplcblnkabEngMoving
set_option linter.unusedVariables false
set_option linter.unusedSimpArgs false
namespace Go.Proofs.Ytaikocplcblnkab
open Go.RowKit

noncomputable def lheld_O (v : Bool) : Out := ⟨.sv (.one (.val false (.bool v))), [], 7, []⟩
noncomputable def lheld_rd (out : Out) : Option (Bool) := some (rB (rvC out.v 0 0))
noncomputable def lheld_res (x0_0 : Int) (x0_1 : Int) (x0_2 : Int) (x0_3 : Int) (x0_4 : Int) (x0_5 : Int) : Option (Bool) := bif (x0_0 != heldS x0_0) then (some false) else bif (x0_3 != heldS x0_3) then (some false) else bif (x0_1 != heldS x0_1) then (some false) else bif (x0_4 != heldS x0_4) then (some false) else bif (x0_2 != heldS x0_2) then (some false) else bif (x0_5 != heldS x0_5) then (some false) else some true
set_option maxRecDepth 100000 in
theorem lheld_tree {x0_0 : Int} {x0_1 : Int} {x0_2 : Int} {x0_3 : Int} {x0_4 : Int} {x0_5 : Int} {v : Bool} (h : lheld_res x0_0 x0_1 x0_2 x0_3 x0_4 x0_5 = some v) : CallOk Try.prog 42 [.sv (.agg [.val false (.int .i64 x0_0), .val false (.int .i64 x0_1), .val false (.int .i64 x0_2), .val false (.int .i64 x0_3), .val false (.int .i64 x0_4), .val false (.int .i64 x0_5)])] [] 0 (lheld_O v) :=
  eng_tree (C := (⟨consMoving, fun _ _ _ => none, fun f => false, noFacts, fun _ => 0⟩ : Cfg Try.prog)) noFacts_ok (n := 30) (f := 42) lheld_O lheld_rd rfl (by kernel_rfl) h
noncomputable def lheld_v (x0_0 : Int) (x0_1 : Int) (x0_2 : Int) (x0_3 : Int) (x0_4 : Int) (x0_5 : Int) : Bool := bif (x0_0 != heldS x0_0) then (false) else bif (x0_3 != heldS x0_3) then (false) else bif (x0_1 != heldS x0_1) then (false) else bif (x0_4 != heldS x0_4) then (false) else bif (x0_2 != heldS x0_2) then (false) else bif (x0_5 != heldS x0_5) then (false) else true
theorem lheld_spec (x0_0 : Int) (x0_1 : Int) (x0_2 : Int) (x0_3 : Int) (x0_4 : Int) (x0_5 : Int) : lheld_res x0_0 x0_1 x0_2 x0_3 x0_4 x0_5 = some (lheld_v x0_0 x0_1 x0_2 x0_3 x0_4 x0_5) := by simp only [lheld_res, lheld_v, cond_some]
noncomputable def lheld_m (args : List RV) (hp : Hp) : Option ((Int × Int × Int × Int × Int × Int) × List Nat) := match args with
  | [.sv (.agg [.val _ (.int .i64 x0_0), .val _ (.int .i64 x0_1), .val _ (.int .i64 x0_2), .val _ (.int .i64 x0_3), .val _ (.int .i64 x0_4), .val _ (.int .i64 x0_5)])] => some ((x0_0, x0_1, x0_2, x0_3, x0_4, x0_5), [])
  | _ => none
noncomputable def lheld_con : Con Try.prog := conX Try.prog 42 lheld_m 0 (fun x => [.sv (.agg [.val false (.int .i64 x.1), .val false (.int .i64 x.2.1), .val false (.int .i64 x.2.2.1), .val false (.int .i64 x.2.2.2.1), .val false (.int .i64 x.2.2.2.2.1), .val false (.int .i64 x.2.2.2.2.2)])]) (fun x => []) (fun x => none) (fun x => lheld_O (lheld_v x.1 x.2.1 x.2.2.1 x.2.2.2.1 x.2.2.2.2.1 x.2.2.2.2.2))
  (by
    intro args hp x r h
    unfold lheld_m at h
    split at h
    · cases h
      exact ⟨rfl, fun nx => ⟨rfl, (fun i hi => by cases hi), fun id o0 ho => by simp [hlook] at ho⟩⟩
    · cases h)
  (fun x h => ⟨rfl, rfl, lheld_tree (lheld_spec x.1 x.2.1 x.2.2.1 x.2.2.2.1 x.2.2.2.2.1 x.2.2.2.2.2)⟩)
noncomputable def consHeld : List (Con Try.prog) := [lheld_con] ++ consMoving
end Go.Proofs.Ytaikocplcblnkab
