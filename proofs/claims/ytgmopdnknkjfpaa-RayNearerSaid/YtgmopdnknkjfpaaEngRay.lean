/- The example of layer 12 holds. No condition. -/
import Derived.Test.YtgmopdnknkjfpaaEng17
import Derived.Test.YtgmopdnknkjfpaaEngVec
set_option linter.unusedVariables false
namespace Go.Proofs.Ytgmopdnknkjfpaa
open Go.RowKit

noncomputable def cfgRayQ : Cfg Try.prog := ⟨consVec, fun _ _ _ => none, fun _ => ⟨false, false⟩, noFacts, fun _ => 0⟩
set_option maxRecDepth 100000 in
theorem awake12E (w : World) : Calls Try.prog 7 #[] w fun en w' => en = .returned (.bool true) ∧ Below w.heap.size w w' := eng_closed (C := cfgRayQ) noFacts_ok (n := 30) (by kernel_rfl) w
noncomputable def consRay : List (Con Try.prog) := conC Try.prog 7 (.bool true) awake12E :: consVec
end Go.Proofs.Ytgmopdnknkjfpaa
