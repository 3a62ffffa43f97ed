/- Nothing is known ahead of the reader and the writer. No condition. -/
import Derived.Test.YtcpbiijegbbafaaProg
import Derived.Test.YtcpbiijegbbafaaEngG
import Derived.Test.YtcpbiijegbbafaaEngFix
import Derived.Test.YtcpbiijegbbafaaLoopA
set_option linter.unusedVariables false
namespace Go.Proofs.Ytcpbiijegbbafaa
open Go.RowKit

noncomputable def consReelV : List (Con Try.prog) := []
end Go.Proofs.Ytcpbiijegbbafaa
