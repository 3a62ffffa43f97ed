/- Jobs' contracts. No condition. -/
import Derived.Test.YtcpbiijegbbafaaEngJob5
import Derived.Test.YtcpbiijegbbafaaEngJob7
import Derived.Test.YtcpbiijegbbafaaEngScene4
set_option linter.unusedVariables false
set_option linter.unusedSimpArgs false
namespace Go.Proofs.Ytcpbiijegbbafaa
open Go.RowKit

noncomputable def consJobCK : List (Con Try.prog) := [jen_con, jpa_con, sto_con] ++ consScene6
end Go.Proofs.Ytcpbiijegbbafaa
