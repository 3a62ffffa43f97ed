/- How many pieces. No condition. -/
import Derived.Test.YtcpbiijegbbafaaEngPack4
set_option linter.unusedVariables false
set_option linter.unusedSimpArgs false
namespace Go.Proofs.Ytcpbiijegbbafaa
open Go.RowKit

noncomputable def consPack5 : List (Con Try.prog) := [] ++ consPack4
end Go.Proofs.Ytcpbiijegbbafaa
