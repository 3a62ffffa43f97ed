/- Jobs' contracts. No condition. -/
import Derived.Test.YtcpbiijegbbafaaEngJob7
import Derived.Test.YtcpbiijegbbafaaEngJob8
import Derived.Test.YtcpbiijegbbafaaEngJob9
import Derived.Test.YtcpbiijegbbafaaEngScene4F
set_option linter.unusedVariables false
set_option linter.unusedSimpArgs false
namespace Go.Proofs.Ytcpbiijegbbafaa
open Go.RowKit

theorem jpa_f : jpa_con.f = 10 := rfl
theorem jpr_f : jpr_con.f = 10 := rfl
noncomputable def consJobCR : List (Con Try.prog) := [Con.or jpa_con jpr_con (jpr_f.trans jpa_f.symm), rpa_con, sfr_con, sam_con] ++ consScene6
end Go.Proofs.Ytcpbiijegbbafaa
