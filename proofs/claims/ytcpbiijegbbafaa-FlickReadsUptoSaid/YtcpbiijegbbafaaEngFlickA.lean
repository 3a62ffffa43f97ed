/- The example of layer 30 holds. No condition. -/
import Derived.Test.YtcpbiijegbbafaaEngFk7
import Derived.Test.YtcpbiijegbbafaaEngFkM
set_option linter.unusedVariables false
namespace Go.Proofs.Ytcpbiijegbbafaa
open Go.RowKit

noncomputable def cfgFlickQ : Cfg Try.prog := ⟨[fki_con.freezeR, isa_con.freeze] ++ consFk1, fun _ _ _ => none, fun _ => ⟨false, false⟩, noFacts, fun _ => 0⟩
set_option maxRecDepth 100000 in
theorem awake30E (w : World) : Calls Try.prog 21 #[] w fun en w' => en = .returned (.bool true) ∧ Below w.heap.size w w' := eng_closed (C := cfgFlickQ) noFacts_ok (n := 30) (by kernel_rfl) w
noncomputable def consFkN : List (Con Try.prog) := [conC Try.prog 21 (.bool true) awake30E] ++ consFkM
end Go.Proofs.Ytcpbiijegbbafaa
