/- The example of layer 7 holds. No condition. -/
import Derived.Test.YtidhjgcegcfmeaaEng17
import Derived.Test.YtidhjgcegcfmeaaEngFix
set_option linter.unusedVariables false
namespace Go.Proofs.Ytidhjgcegcfmeaa
open Go.RowKit

def cfgReelQ : Cfg Try.prog := ⟨[], fun _ _ _ => none, fun _ => ⟨false, true⟩, noFacts, fun _ => 0⟩
set_option maxRecDepth 100000 in
theorem awake07E (w : World) : Calls Try.prog 8 #[] w fun en w' => en = .returned (.bool true) ∧ Below w.heap.size w w' := eng_closed (C := cfgReelQ) noFacts_ok (n := 30) (by kernel_rfl) w
noncomputable def consReel : List (Con Try.prog) := [conC Try.prog 8 (.bool true) awake07E]
end Go.Proofs.Ytidhjgcegcfmeaa
