/- The example, as a contract. No condition. -/
import Derived.Test.YtijidmcblpgfkaaDoorLcH
set_option linter.unusedVariables false
set_option linter.unusedSimpArgs false
namespace Go.Proofs.YtijidmcblpgfkaaDoor
open Go.RowKit

noncomputable def awk_v (gT : List (List Ct)) : Bool := true
theorem awk_spec (gT : List (List Ct)) (h : (gtB gT) = true) : awk_res gT = some (awk_v gT) := awk_some h
noncomputable def awk_as : List ASh := []
noncomputable def awk_con : Con Tryd.prog := conSG Tryd.prog 7 0 [.int .i64] awk_as (fun x => some (gtB (x.getD 0 (.i 0)).rows)) (fun x => awk_O (awk_v (x.getD 0 (.i 0)).rows))
  (fun x h => ⟨by kernel_rfl, by kernel_rfl, Eq.mp (by kernel_rfl) (@awk_tree ((x.getD 0 (.i 0)).rows) _ (awk_spec ((x.getD 0 (.i 0)).rows) (h _ rfl)))⟩)
noncomputable def consLcE : List (Con Tryd.prog) := [awk_con] ++ consLcC
end Go.Proofs.YtijidmcblpgfkaaDoor
