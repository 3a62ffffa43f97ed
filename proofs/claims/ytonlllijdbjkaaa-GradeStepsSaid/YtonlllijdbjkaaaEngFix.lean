/- The contracts of layer 1, as the symbolic way takes them. No condition. -/
import Derived.Test.YtonlllijdbjkaaaEngE
import Derived.Test.YtonlllijdbjkaaaFix
set_option linter.unusedVariables false
namespace Go.Proofs.Ytonlllijdbjkaaa
open Go.RowKit

def consFix : List (Con Try.prog) := [
  conI1 Try.prog 36 heldS clamp_any,
  conI1 Try.prog 38 heldS held_any,
  conI2 Try.prog 85 addS fadd_any,
  conI2 Try.prog 86 subS fsub_any,
  conI2 Try.prog 93 addS radd_any,
  conI2 Try.prog 94 subS rsub_any,
  conI2 Try.prog 82 mulS fmul_any,
  conI1 Try.prog 60 unS funit_any,
  conI1 Try.prog 63 unS runit_any,
  conI2 Try.prog 87 mulS rmul_any,
  conI3 Try.prog 92 lerpS rlerp_any,
  conI3 Try.prog 84 lerpS flerp_any,
  conI1 Try.prog 44 ofS fof_any,
  conI1 Try.prog 47 ofS rof_any,
  conI2 Try.prog 43 divS fdiv_any,
  conI2 Try.prog 46 divS rdiv_any,
]
end Go.Proofs.Ytonlllijdbjkaaa
