/- What the functions of layer 2 on points compute. No condition. -/
import Derived.Test.YtonlllijdbjkaaaEngFix
set_option linter.unusedVariables false
namespace Go.Proofs.Ytonlllijdbjkaaa
open Go.RowKit
















def consVec : List (Con Try.prog) := [
] ++ consFix
end Go.Proofs.Ytonlllijdbjkaaa
