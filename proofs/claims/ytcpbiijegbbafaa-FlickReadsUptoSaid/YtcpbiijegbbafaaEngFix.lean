/- The contracts of layer 1, as the symbolic way takes them. No condition. -/
import Derived.Test.YtcpbiijegbbafaaEngE
import Derived.Test.YtcpbiijegbbafaaFix
set_option linter.unusedVariables false
namespace Go.Proofs.Ytcpbiijegbbafaa
open Go.RowKit

def consFix : List (Con Try.prog) := [
  conI1 Try.prog 132 heldS held_any,
]
end Go.Proofs.Ytcpbiijegbbafaa
