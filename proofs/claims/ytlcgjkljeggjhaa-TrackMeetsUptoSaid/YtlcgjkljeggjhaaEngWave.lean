/- The waves' contracts, as the symbolic way takes them. No condition. -/
import Derived.Test.YtlcgjkljeggjhaaEngVec
import Derived.Test.YtlcgjkljeggjhaaWave
set_option linter.unusedVariables false
namespace Go.Proofs.Ytlcgjkljeggjhaa
open Go.RowKit

def consWave : List (Con Try.prog) := [
  conI1 Try.prog 21 easeS ease_any,
  conI1 Try.prog 24 easeS rease_any,
] ++ consVec
end Go.Proofs.Ytlcgjkljeggjhaa
