/- The example of layer 6 holds. No condition. -/
import Derived.Test.YtlcgjkljeggjhaaEng17
import Derived.Test.YtlcgjkljeggjhaaEng19
import Derived.Test.YtlcgjkljeggjhaaEngWave
set_option linter.unusedVariables false
namespace Go.Proofs.Ytlcgjkljeggjhaa
open Go.RowKit

noncomputable def cfgTrackQ : Cfg Try.prog := ⟨consWave, fun _ _ _ => none, fun _ => ⟨false, true⟩, noFacts, fun _ => 0⟩
set_option maxRecDepth 100000 in
theorem awake06E (w : World) : Calls Try.prog 5 #[] w fun en w' => en = .returned (.bool true) ∧ Below w.heap.size w w' := eng_closed (C := cfgTrackQ) noFacts_ok (n := 30) (by kernel_rfl) w
noncomputable def consTrack : List (Con Try.prog) := conC Try.prog 5 (.bool true) awake06E :: consWave
end Go.Proofs.Ytlcgjkljeggjhaa
