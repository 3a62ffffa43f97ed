/- How much a pixel counts, as a contract. No condition. -/
import Derived.Test.YtijidmcblpgfkaaDoorLcB
set_option linter.unusedVariables false
set_option linter.unusedSimpArgs false
namespace Go.Proofs.YtijidmcblpgfkaaDoor
open Go.RowKit

noncomputable def wei_v (gT x0_3 x0_4 x0_6 x1_2 : List (List Ct)) (x2 x3 x4 x5 x6 : Int) : Int := weiS x0_3 x0_4 x0_6 x1_2 x2 x3 x4 x5 x6
theorem wei_spec (gT x0_3 x0_4 x0_6 x1_2 : List (List Ct)) (x2 x3 x4 x5 x6 : Int) (h : (weiP gT x0_3 x0_4 x0_6 x1_2 x2 x3 x4 x5 x6) = true) : wei_res gT x0_3 x0_4 x0_6 x1_2 x2 x3 x4 x5 x6 = some (wei_v gT x0_3 x0_4 x0_6 x1_2 x2 x3 x4 x5 x6) := wei_some h
noncomputable def wei_as : List ASh := [.agg [.int .i64, .int .i64, .grid [.int .i64, .int .i64, .int .i64], .grid [.int .i64], .grid [.int .i64, .int .i64, .int .i64], .grid [.int .i64, .int .i64, .int .i64], .grid [.int .i64], .grid [.int .i64]], .agg [.int .i64, .int .i64, .grid [.int .i64, .int .i64, .int .i64]], .one (.int .i64), .one (.int .i64), .one (.int .i64), .one (.int .i64), .one (.int .i64)]
noncomputable def wei_con : Con Tryd.prog := conSG Tryd.prog 28 0 [.int .i64] wei_as (fun x => some (weiP (x.getD 0 (.i 0)).rows (x.getD 4 (.i 0)).rows (x.getD 5 (.i 0)).rows (x.getD 7 (.i 0)).rows (x.getD 11 (.i 0)).rows (x.getD 12 (.i 0)).int (x.getD 13 (.i 0)).int (x.getD 14 (.i 0)).int (x.getD 15 (.i 0)).int (x.getD 16 (.i 0)).int)) (fun x => wei_O (wei_v (x.getD 0 (.i 0)).rows (x.getD 4 (.i 0)).rows (x.getD 5 (.i 0)).rows (x.getD 7 (.i 0)).rows (x.getD 11 (.i 0)).rows (x.getD 12 (.i 0)).int (x.getD 13 (.i 0)).int (x.getD 14 (.i 0)).int (x.getD 15 (.i 0)).int (x.getD 16 (.i 0)).int))
  (fun x h => ⟨by kernel_rfl, by kernel_rfl, Eq.mp (by kernel_rfl) (@wei_tree ((x.getD 0 (.i 0)).rows) ((x.getD 1 (.i 0)).int) ((x.getD 2 (.i 0)).int) ((x.getD 3 (.i 0)).rows) ((x.getD 4 (.i 0)).rows) ((x.getD 5 (.i 0)).rows) ((x.getD 6 (.i 0)).rows) ((x.getD 7 (.i 0)).rows) ((x.getD 8 (.i 0)).rows) ((x.getD 9 (.i 0)).int) ((x.getD 10 (.i 0)).int) ((x.getD 11 (.i 0)).rows) ((x.getD 12 (.i 0)).int) ((x.getD 13 (.i 0)).int) ((x.getD 14 (.i 0)).int) ((x.getD 15 (.i 0)).int) ((x.getD 16 (.i 0)).int) _ (wei_spec ((x.getD 0 (.i 0)).rows) ((x.getD 4 (.i 0)).rows) ((x.getD 5 (.i 0)).rows) ((x.getD 7 (.i 0)).rows) ((x.getD 11 (.i 0)).rows) ((x.getD 12 (.i 0)).int) ((x.getD 13 (.i 0)).int) ((x.getD 14 (.i 0)).int) ((x.getD 15 (.i 0)).int) ((x.getD 16 (.i 0)).int) (h _ rfl)))⟩)

noncomputable def tpo_v (x0 : Int) : Int := tapN x0
theorem tpo_spec (x0 : Int) (h : (two5 x0) = true) : tpo_res x0 = some (tpo_v x0) := tpo_some h
noncomputable def tpo_m (args : List RV) (hp : Hp) : Option ((Int) × List Nat) := match args with
  | [.sv (.one (.val _ (.int .i64 x0)))] => some (x0, [])
  | _ => none
noncomputable def tpo_con : Con Tryd.prog := conX Tryd.prog 41 tpo_m 0 (fun x => [.sv (.one (.val false (.int .i64 x)))]) (fun x => []) (fun x => some (two5 x)) (fun x => tpo_O (tpo_v x))
  (by
    intro args hp x r h
    unfold tpo_m at h
    split at h
    · cases h
      exact ⟨rfl, fun nx => ⟨rfl, (fun i hi => by cases hi), fun id o0 ho => by simp [hlook] at ho⟩⟩
    · cases h)
  (fun x h => ⟨rfl, rfl, tpo_tree (tpo_spec x (h _ rfl))⟩)
noncomputable def consLc5 : List (Con Tryd.prog) := [wei_con.freeze, tpo_con] ++ consLc3
end Go.Proofs.YtijidmcblpgfkaaDoor
