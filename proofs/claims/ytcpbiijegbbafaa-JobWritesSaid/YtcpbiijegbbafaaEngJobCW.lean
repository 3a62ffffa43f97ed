/- Jobs' contracts. No condition. -/
import Derived.Test.YtcpbiijegbbafaaEngJob5
import Derived.Test.YtcpbiijegbbafaaEngJob6
import Derived.Test.YtcpbiijegbbafaaEngJob7
import Derived.Test.YtcpbiijegbbafaaEngScene4
set_option linter.unusedVariables false
set_option linter.unusedSimpArgs false
namespace Go.Proofs.Ytcpbiijegbbafaa
open Go.RowKit

noncomputable def consJobCW : List (Con Try.prog) := [jen_con, ren_con, sto_con, jpa_con] ++ consScene6
end Go.Proofs.Ytcpbiijegbbafaa
