/- The contracts of layer 1, as the symbolic way takes them. No condition. -/
import Derived.Test.YtidhjgcegcfmeaaEng12
import Derived.Test.YtidhjgcegcfmeaaFix
set_option linter.unusedVariables false
namespace Go.Proofs.Ytidhjgcegcfmeaa
open Go.RowKit

def consFix : List (Con Try.prog) := [
  conI1 Try.prog 31 heldS held_any,
]
end Go.Proofs.Ytidhjgcegcfmeaa
