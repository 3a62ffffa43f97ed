/- The contracts of layer 1, as the symbolic way takes them. No condition. -/
import Derived.Test.YtmpaelkjooahoaaEngE
import Derived.Test.YtmpaelkjooahoaaFix
set_option linter.unusedVariables false
namespace Go.Proofs.Ytmpaelkjooahoaa
open Go.RowKit

def consFix : List (Con Try.prog) := [
  conI1 Try.prog 75 heldS clamp_any,
  conI1 Try.prog 70 heldS held_any,
  conI2 Try.prog 55 addS fadd_any,
  conI2 Try.prog 59 subS fsub_any,
  conI2 Try.prog 64 addS radd_any,
  conI2 Try.prog 62 subS rsub_any,
  conI2 Try.prog 38 mulS fmul_any,
  conI1 Try.prog 103 unS funit_any,
  conI1 Try.prog 72 unS runit_any,
  conI1 Try.prog 78 partS fpart_any,
  conI2 Try.prog 45 mulS rmul_any,
  conI3 Try.prog 34 lerpS rlerp_any,
  conI3 Try.prog 96 lerpS flerp_any,
  conI1 Try.prog 40 ofS fof_any,
  conI1 Try.prog 74 ofS rof_any,
  conI2 Try.prog 39 divS fdiv_any,
  conI2 Try.prog 73 divS rdiv_any,
  conI1 Try.prog 84 rootS froot_any,
  conI1 Try.prog 88 rootS rroot_any,
]
end Go.Proofs.Ytmpaelkjooahoaa
