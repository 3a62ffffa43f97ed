/- The contracts of layer 1, as the symbolic way takes them. No condition. -/
import Derived.Test.YtpfaejbdbdjhhaaEngE
import Derived.Test.YtpfaejbdbdjhhaaFix
set_option linter.unusedVariables false
namespace Go.Proofs.Ytpfaejbdbdjhhaa
open Go.RowKit

def consFix : List (Con Try.prog) := [
  conI1 Try.prog 54 heldS clamp_any,
  conI1 Try.prog 75 heldS held_any,
  conI2 Try.prog 76 addS fadd_any,
  conI2 Try.prog 61 subS fsub_any,
  conI2 Try.prog 71 addS radd_any,
  conI2 Try.prog 66 subS rsub_any,
  conI1 Try.prog 57 absS fabs_any,
  conI2 Try.prog 59 mulS fmul_any,
  conI1 Try.prog 55 unS funit_any,
  conI1 Try.prog 77 unS runit_any,
  conI2 Try.prog 69 mulS rmul_any,
  conI3 Try.prog 74 lerpS rlerp_any,
  conI3 Try.prog 34 lerpS flerp_any,
  conI2 Try.prog 60 divS fdiv_any,
  conI2 Try.prog 70 divS rdiv_any,
]
end Go.Proofs.Ytpfaejbdbdjhhaa
