/- The stable sort's parts. No condition. -/
import Derived.Test.YtmpaelkjooahoaaEngOrbit3
import Derived.Test.YtmpaelkjooahoaaEngOrbitY
set_option linter.unusedVariables false
set_option linter.unusedSimpArgs false
namespace Go.Proofs.Ytmpaelkjooahoaa
open Go.RowKit

noncomputable def smm_p (l : List (List Ct)) (a m b : Int) : Bool := (symAt 8).i.p l a m b
noncomputable def smm_v (l : List (List Ct)) (a m b : Int) : List (List Ct) := (symAt 8).i.v l a m b
noncomputable def smm_con : Con Try.prog := conS Try.prog 106 sym_as (fun x => some (smm_p (x.getD 0 (.i 0)).rows (x.getD 1 (.i 0)).int (x.getD 2 (.i 0)).int (x.getD 3 (.i 0)).int)) (fun x => ⟨.tup [], [(0, .row [.int .i64, .int .i64, .int .i64, .int .i64] 86 (smm_v (x.getD 0 (.i 0)).rows (x.getD 1 (.i 0)).int (x.getD 2 (.i 0)).int (x.getD 3 (.i 0)).int))], 1, [0]⟩)
  (fun x h => ⟨by kernel_rfl, by kernel_rfl, Eq.mp (by kernel_rfl) ((symAt 8).i.ok (x.getD 0 (.i 0)).rows (x.getD 1 (.i 0)).int (x.getD 2 (.i 0)).int (x.getD 3 (.i 0)).int (h _ rfl))⟩)
noncomputable def consOrbit3 : List (Con Try.prog) := [ins_con, smm_con] ++ consOrbit2
end Go.Proofs.Ytmpaelkjooahoaa
