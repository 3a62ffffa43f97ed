/- The contracts of layer 1, as the symbolic way takes them. No condition. -/
import Derived.Test.YthgneojhhocflaaEng12
import Derived.Test.YthgneojhhocflaaFix
set_option linter.unusedVariables false
namespace Go.Proofs.Ythgneojhhocflaa
open Go.RowKit

def consFix : List (Con Try.prog) := [
  conI1 Try.prog 52 heldS held_any,
]
end Go.Proofs.Ythgneojhhocflaa
