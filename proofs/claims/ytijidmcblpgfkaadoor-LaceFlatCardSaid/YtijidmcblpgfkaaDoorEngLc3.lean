/- How much alike, as contracts. No condition. -/
import Derived.Test.YtijidmcblpgfkaaDoorLcA
set_option linter.unusedVariables false
set_option linter.unusedSimpArgs false
namespace Go.Proofs.YtijidmcblpgfkaaDoor
open Go.RowKit

noncomputable def lik_v (x0_3 x0_4 x0_6 : List (List Ct)) (x1 : Int) (x2 : Int) : Int := likS x0_3 x0_4 x0_6 x1 x2
theorem lik_spec (x0_3 x0_4 x0_6 : List (List Ct)) (x1 : Int) (x2 : Int) (h : (likP x0_3 x0_4 x0_6 x1 x2) = true) : lik_res x0_3 x0_4 x0_6 x1 x2 = some (lik_v x0_3 x0_4 x0_6 x1 x2) := lik_some 0 0 [] x0_3 x0_4 [] x0_6 [] x1 x2 h
noncomputable def lik_as : List ASh := [.agg [.int .i64, .int .i64, .grid [.int .i64, .int .i64, .int .i64], .grid [.int .i64], .grid [.int .i64, .int .i64, .int .i64], .grid [.int .i64, .int .i64, .int .i64], .grid [.int .i64], .grid [.int .i64]], .one (.int .i64), .one (.int .i64)]
noncomputable def lik_con : Con Tryd.prog := conS Tryd.prog 45 lik_as (fun x => some (likP (x.getD 3 (.i 0)).rows (x.getD 4 (.i 0)).rows (x.getD 6 (.i 0)).rows (x.getD 8 (.i 0)).int (x.getD 9 (.i 0)).int)) (fun x => lik_O (lik_v (x.getD 3 (.i 0)).rows (x.getD 4 (.i 0)).rows (x.getD 6 (.i 0)).rows (x.getD 8 (.i 0)).int (x.getD 9 (.i 0)).int))
  (fun x h => ⟨by kernel_rfl, by kernel_rfl, Eq.mp (by kernel_rfl) (@lik_tree ((x.getD 0 (.i 0)).int) ((x.getD 1 (.i 0)).int) ((x.getD 2 (.i 0)).rows) ((x.getD 3 (.i 0)).rows) ((x.getD 4 (.i 0)).rows) ((x.getD 5 (.i 0)).rows) ((x.getD 6 (.i 0)).rows) ((x.getD 7 (.i 0)).rows) ((x.getD 8 (.i 0)).int) ((x.getD 9 (.i 0)).int) _ (lik_spec ((x.getD 3 (.i 0)).rows) ((x.getD 4 (.i 0)).rows) ((x.getD 6 (.i 0)).rows) ((x.getD 8 (.i 0)).int) ((x.getD 9 (.i 0)).int) (h _ rfl)))⟩)

noncomputable def ali_v (x0_3 x0_4 x0_6 : List (List Ct)) (x1 : Int) (x2 : Int) : Int := likS x0_3 x0_4 x0_6 x1 x2
theorem ali_spec (x0_3 x0_4 x0_6 : List (List Ct)) (x1 : Int) (x2 : Int) (h : (likP x0_3 x0_4 x0_6 x1 x2) = true) : ali_res x0_3 x0_4 x0_6 x1 x2 = some (ali_v x0_3 x0_4 x0_6 x1 x2) := ali_some 0 0 [] x0_3 x0_4 [] x0_6 [] x1 x2 h
noncomputable def ali_as : List ASh := [.agg [.int .i64, .int .i64, .grid [.int .i64, .int .i64, .int .i64], .grid [.int .i64], .grid [.int .i64, .int .i64, .int .i64], .grid [.int .i64, .int .i64, .int .i64], .grid [.int .i64], .grid [.int .i64]], .one (.int .i64), .one (.int .i64)]
noncomputable def ali_con : Con Tryd.prog := conS Tryd.prog 38 ali_as (fun x => some (likP (x.getD 3 (.i 0)).rows (x.getD 4 (.i 0)).rows (x.getD 6 (.i 0)).rows (x.getD 8 (.i 0)).int (x.getD 9 (.i 0)).int)) (fun x => ali_O (ali_v (x.getD 3 (.i 0)).rows (x.getD 4 (.i 0)).rows (x.getD 6 (.i 0)).rows (x.getD 8 (.i 0)).int (x.getD 9 (.i 0)).int))
  (fun x h => ⟨by kernel_rfl, by kernel_rfl, Eq.mp (by kernel_rfl) (@ali_tree ((x.getD 0 (.i 0)).int) ((x.getD 1 (.i 0)).int) ((x.getD 2 (.i 0)).rows) ((x.getD 3 (.i 0)).rows) ((x.getD 4 (.i 0)).rows) ((x.getD 5 (.i 0)).rows) ((x.getD 6 (.i 0)).rows) ((x.getD 7 (.i 0)).rows) ((x.getD 8 (.i 0)).int) ((x.getD 9 (.i 0)).int) _ (ali_spec ((x.getD 3 (.i 0)).rows) ((x.getD 4 (.i 0)).rows) ((x.getD 6 (.i 0)).rows) ((x.getD 8 (.i 0)).int) ((x.getD 9 (.i 0)).int) (h _ rfl)))⟩)

noncomputable def nea_v (x0_0 x0_1 x0_2 x1_0 x1_1 x1_2 x2 : Int) : Int := neaS x0_0 x0_1 x0_2 x1_0 x1_1 x1_2 x2
theorem nea_spec (x0_0 x0_1 x0_2 x1_0 x1_1 x1_2 x2 : Int) (h : (levP x2) = true) : nea_res x0_0 x0_1 x0_2 x1_0 x1_1 x1_2 x2 = some (nea_v x0_0 x0_1 x0_2 x1_0 x1_1 x1_2 x2) := nea_some _ _ _ _ _ _ _ h
noncomputable def nea_m (args : List RV) (hp : Hp) : Option ((Int × Int × Int × Int × Int × Int × Int) × List Nat) := match args with
  | [.sv (.agg [.val _ (.int .i64 x0_0), .val _ (.int .i64 x0_1), .val _ (.int .i64 x0_2)]), .sv (.agg [.val _ (.int .i64 x1_0), .val _ (.int .i64 x1_1), .val _ (.int .i64 x1_2)]), .sv (.one (.val _ (.int .i64 x2)))] => some ((x0_0, x0_1, x0_2, x1_0, x1_1, x1_2, x2), [])
  | _ => none
noncomputable def nea_con : Con Tryd.prog := conX Tryd.prog 46 nea_m 0 (fun x => [.sv (.agg [.val false (.int .i64 x.1), .val false (.int .i64 x.2.1), .val false (.int .i64 x.2.2.1)]), .sv (.agg [.val false (.int .i64 x.2.2.2.1), .val false (.int .i64 x.2.2.2.2.1), .val false (.int .i64 x.2.2.2.2.2.1)]), .sv (.one (.val false (.int .i64 x.2.2.2.2.2.2)))]) (fun x => []) (fun x => some (levP x.2.2.2.2.2.2)) (fun x => nea_O (nea_v x.1 x.2.1 x.2.2.1 x.2.2.2.1 x.2.2.2.2.1 x.2.2.2.2.2.1 x.2.2.2.2.2.2))
  (by
    intro args hp x r h
    unfold nea_m at h
    split at h
    · cases h
      exact ⟨rfl, fun nx => ⟨rfl, (fun i hi => by cases hi), fun id o0 ho => by simp [hlook] at ho⟩⟩
    · cases h)
  (fun x h => ⟨rfl, rfl, nea_tree (nea_spec x.1 x.2.1 x.2.2.1 x.2.2.2.1 x.2.2.2.2.1 x.2.2.2.2.2.1 x.2.2.2.2.2.2 (h _ rfl))⟩)

noncomputable def pow_v (x0 : Int) : Int := powS x0
theorem pow_spec (x0 : Int) (h : (levP x0) = true) : pow_res x0 = some (pow_v x0) := pow_some _ h
noncomputable def pow_m (args : List RV) (hp : Hp) : Option ((Int) × List Nat) := match args with
  | [.sv (.one (.val _ (.int .i64 x0)))] => some (x0, [])
  | _ => none
noncomputable def pow_con : Con Tryd.prog := conX Tryd.prog 34 pow_m 0 (fun x => [.sv (.one (.val false (.int .i64 x)))]) (fun x => []) (fun x => some (levP x)) (fun x => pow_O (pow_v x))
  (by
    intro args hp x r h
    unfold pow_m at h
    split at h
    · cases h
      exact ⟨rfl, fun nx => ⟨rfl, (fun i hi => by cases hi), fun id o0 ho => by simp [hlook] at ho⟩⟩
    · cases h)
  (fun x h => ⟨rfl, rfl, pow_tree (pow_spec x (h _ rfl))⟩)
noncomputable def consLc3 : List (Con Tryd.prog) := [lik_con.freeze, ali_con.freeze, nea_con, pow_con] ++ consLc1
end Go.Proofs.YtijidmcblpgfkaaDoor
