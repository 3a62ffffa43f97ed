/- Jobs' contracts. No condition. -/
import Derived.Test.YtcpbiijegbbafaaEngJob5
import Derived.Test.YtcpbiijegbbafaaEngJob7
import Derived.Test.YtcpbiijegbbafaaEngScene4
import Derived.Test.YtcpbiijegbbafaaEngScene4F
set_option linter.unusedVariables false
set_option linter.unusedSimpArgs false
namespace Go.Proofs.Ytcpbiijegbbafaa
open Go.RowKit

noncomputable def consJobCB : List (Con Try.prog) := [jen_con.freezeO, jpa_con, sto_con, sfr_con, sam_con] ++ consScene6
end Go.Proofs.Ytcpbiijegbbafaa
