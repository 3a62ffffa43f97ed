/- The example of layer 40 holds. No condition. -/
import Derived.Test.YtjjijaeoafeocaaEngG
import Derived.Test.YtjjijaeoafeocaaEngGl
set_option linter.unusedVariables false
namespace Go.Proofs.Ytjjijaeoafeocaa
open Go.RowKit

def cfgGlQ : Cfg Try.prog := ⟨consGl, fun _ _ _ => none, fun _ => ⟨false, true⟩, noFacts, fun _ => 0⟩
set_option maxRecDepth 100000 in
theorem awake40E (w : World) : Calls Try.prog 7 #[] w fun en w' => en = .returned (.bool true) ∧ Below w.heap.size w w' := eng_closed (C := cfgGlQ) noFacts_ok (n := 30) (by kernel_rfl) w
noncomputable def consGlA : List (Con Try.prog) := [conC Try.prog 7 (.bool true) awake40E]
end Go.Proofs.Ytjjijaeoafeocaa
