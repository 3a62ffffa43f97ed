/- Readers over scenes' contracts (r16); for r4's own text see reellays.gen.py 3. No condition. -/
import Derived.Test.YtcpbiijegbbafaaEngScene6
set_option linter.unusedVariables false
namespace Go.Proofs.Ytcpbiijegbbafaa
open Go.RowKit
noncomputable def consReelV : List (Con Try.prog) := consScene6
end Go.Proofs.Ytcpbiijegbbafaa
