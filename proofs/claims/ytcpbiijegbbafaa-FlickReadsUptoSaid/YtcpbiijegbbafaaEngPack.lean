/- The example of layer 29 holds. No condition. -/
import Derived.Test.YtcpbiijegbbafaaEngG
import Derived.Test.YtcpbiijegbbafaaEngFix
set_option linter.unusedVariables false
namespace Go.Proofs.Ytcpbiijegbbafaa
open Go.RowKit

noncomputable def consPack : List (Con Try.prog) := []
end Go.Proofs.Ytcpbiijegbbafaa
