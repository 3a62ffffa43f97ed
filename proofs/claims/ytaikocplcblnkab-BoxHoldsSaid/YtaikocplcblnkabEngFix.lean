/- The contracts of layer 1, as the symbolic way takes them. No condition. -/
import Derived.Test.YtaikocplcblnkabEng12
import Derived.Test.YtaikocplcblnkabFix
set_option linter.unusedVariables false
namespace Go.Proofs.Ytaikocplcblnkab
open Go.RowKit

def consFix : List (Con Try.prog) := [
  conI1 Try.prog 138 heldS clamp_any,
  conI1 Try.prog 95 heldS held_any,
  conI2 Try.prog 107 addS fadd_any,
  conI2 Try.prog 109 subS fsub_any,
  conI2 Try.prog 108 addS radd_any,
  conI2 Try.prog 110 subS rsub_any,
  conI1 Try.prog 167 absS fabs_any,
  conI2 Try.prog 111 mulS fmul_any,
  conI1 Try.prog 143 unS funit_any,
  conI1 Try.prog 144 unS runit_any,
  conI1 Try.prog 178 partS fpart_any,
  conI2 Try.prog 112 mulS rmul_any,
  conI3 Try.prog 115 lerpS rlerp_any,
  conI3 Try.prog 114 lerpS flerp_any,
  conI1 Try.prog 116 ofS fof_any,
  conI1 Try.prog 119 ofS rof_any,
  conI2 Try.prog 117 divS fdiv_any,
  conI2 Try.prog 118 divS rdiv_any,
  conI1 Try.prog 160 rootS froot_any,
  conI1 Try.prog 175 rootS rroot_any,
]
end Go.Proofs.Ytaikocplcblnkab
