/- The waves' contracts, as the symbolic way takes them. No condition. -/
import Derived.Test.YtmpaelkjooahoaaEngVec
import Derived.Test.YtmpaelkjooahoaaWave
set_option linter.unusedVariables false
namespace Go.Proofs.Ytmpaelkjooahoaa
open Go.RowKit

def consWave : List (Con Try.prog) := [
  conI1 Try.prog 43 sinS sin_any,
  conI1 Try.prog 47 sinS rsin_any,
  conI1 Try.prog 42 cosS cos_any,
  conI1 Try.prog 46 cosS rcos_any,
  conI1 Try.prog 91 easeS ease_any,
  conI1 Try.prog 94 easeS rease_any,
] ++ consVec
end Go.Proofs.Ytmpaelkjooahoaa
