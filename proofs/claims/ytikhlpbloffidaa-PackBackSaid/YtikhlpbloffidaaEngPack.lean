/- The example of layer 29 holds. No condition. -/
import Derived.Test.YtikhlpbloffidaaEng17
import Derived.Test.YtikhlpbloffidaaEngFix
set_option linter.unusedVariables false
namespace Go.Proofs.Ytikhlpbloffidaa
open Go.RowKit

def cfgPackQ : Cfg Try.prog := ⟨[], fun _ _ _ => none, fun _ => ⟨false, true⟩, noFacts, fun _ => 0⟩
set_option maxRecDepth 100000 in
theorem awake29E (w : World) : Calls Try.prog 6 #[] w fun en w' => en = .returned (.bool true) ∧ Below w.heap.size w w' := eng_closed (C := cfgPackQ) noFacts_ok (n := 30) (by kernel_rfl) w
noncomputable def consPack : List (Con Try.prog) := [conC Try.prog 6 (.bool true) awake29E]
end Go.Proofs.Ytikhlpbloffidaa
