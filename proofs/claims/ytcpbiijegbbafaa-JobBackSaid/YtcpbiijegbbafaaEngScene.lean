/- The example of layer 8 holds. No condition. -/
import Derived.Test.YtcpbiijegbbafaaProg
import Derived.Test.YtcpbiijegbbafaaEngG
import Derived.Test.YtcpbiijegbbafaaEngFix
set_option linter.unusedVariables false
namespace Go.Proofs.Ytcpbiijegbbafaa
open Go.RowKit

def consScene : List (Con Try.prog) := consFix
end Go.Proofs.Ytcpbiijegbbafaa
