/- The contracts of layer 1, as the symbolic way takes them. No condition. -/
import Derived.Test.YtikhlpbloffidaaEng12
import Derived.Test.YtikhlpbloffidaaFix
set_option linter.unusedVariables false
namespace Go.Proofs.Ytikhlpbloffidaa
open Go.RowKit

def consFix : List (Con Try.prog) := [
]
end Go.Proofs.Ytikhlpbloffidaa
