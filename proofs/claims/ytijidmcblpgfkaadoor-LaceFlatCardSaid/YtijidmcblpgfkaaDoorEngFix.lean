/- The contracts of layer 1, as the symbolic way takes them. No condition. -/
import Derived.Test.YtijidmcblpgfkaaDoorEngE
import Derived.Test.YtijidmcblpgfkaaDoorFix
set_option linter.unusedVariables false
namespace Go.Proofs.YtijidmcblpgfkaaDoor
open Go.RowKit

def consFix : List (Con Tryd.prog) := [
  conI1 Tryd.prog 50 heldS clamp_any,
  conI1 Tryd.prog 53 heldS held_any,
  conI2 Tryd.prog 31 addS fadd_any,
  conI2 Tryd.prog 63 subS fsub_any,
  conI2 Tryd.prog 40 addS radd_any,
  conI2 Tryd.prog 56 subS rsub_any,
  conI1 Tryd.prog 62 absS fabs_any,
  conI2 Tryd.prog 44 mulS fmul_any,
  conI1 Tryd.prog 60 unS funit_any,
  conI1 Tryd.prog 57 unS runit_any,
  conI2 Tryd.prog 35 mulS rmul_any,
  conI1 Tryd.prog 47 ofS fof_any,
  conI1 Tryd.prog 36 ofS rof_any,
  conI2 Tryd.prog 32 divS fdiv_any,
  conI2 Tryd.prog 39 divS rdiv_any,
]
end Go.Proofs.YtijidmcblpgfkaaDoor
