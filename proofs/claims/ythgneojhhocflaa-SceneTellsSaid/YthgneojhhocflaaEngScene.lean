/- The example of layer 8 holds. No condition. -/
import Derived.Test.YthgneojhhocflaaProg
import Derived.Test.YthgneojhhocflaaEng17
import Derived.Test.YthgneojhhocflaaEng19
import Derived.Test.YthgneojhhocflaaEngFix
set_option linter.unusedVariables false
namespace Go.Proofs.Ythgneojhhocflaa
open Go.RowKit

noncomputable def cfgSceneQ : Cfg Try.prog := ⟨[], fun _ _ _ => none, fun _ => ⟨false, true⟩, noFacts, fun _ => 0⟩
set_option maxRecDepth 100000 in
theorem awake08E (w : World) : Calls Try.prog 7 #[] w fun en w' => en = .returned (.bool true) ∧ Below w.heap.size w w' := eng_closed (C := cfgSceneQ) noFacts_ok (n := 30) (by kernel_rfl) w
noncomputable def consScene : List (Con Try.prog) := conC Try.prog 7 (.bool true) awake08E :: consFix
end Go.Proofs.Ythgneojhhocflaa
