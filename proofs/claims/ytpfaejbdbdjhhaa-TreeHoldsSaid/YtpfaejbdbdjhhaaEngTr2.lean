/- The widest axis, by definition. No condition. -/
import Derived.Test.YtpfaejbdbdjhhaaEngTr1
set_option linter.unusedVariables false
set_option linter.unusedSimpArgs false
namespace Go.Proofs.Ytpfaejbdbdjhhaa
open Go.RowKit

noncomputable def rwi_O (v : Int) : Out := ⟨.sv (.one (.val false (.int .i64 v))), [], 28, []⟩
noncomputable def rwi_rd (out : Out) : Option (Int) := some (rI (rvC out.v 0 0))
noncomputable def rwi_res (x0_0 x0_1 x0_2 : Int) : Option (Int) := bif (bif decide (ram_v x0_0 ≥ ram_v x0_0) then bif decide (ram_v x0_0 ≥ ram_v x0_1) then decide (ram_v x0_0 ≥ ram_v x0_2) else false else false) then (some 0) else bif (bif decide (ram_v x0_1 ≥ ram_v x0_0) then bif decide (ram_v x0_1 ≥ ram_v x0_1) then decide (ram_v x0_1 ≥ ram_v x0_2) else false else false) then (some 1) else bif (bif decide (ram_v x0_2 ≥ ram_v x0_0) then bif decide (ram_v x0_2 ≥ ram_v x0_1) then decide (ram_v x0_2 ≥ ram_v x0_2) else false else false) then (some 2) else some 0
set_option maxRecDepth 100000 in
theorem rwi_tree {x0_0 x0_1 x0_2 v : Int} (h : rwi_res x0_0 x0_1 x0_2 = some v) : CallOk Try.prog 47 [.sv (.agg [.val false (.int .i64 x0_0), .val false (.int .i64 x0_1), .val false (.int .i64 x0_2)])] [] 0 (rwi_O v) :=
  eng_tree (C := (⟨consTr1, fun _ _ _ => none, fun f => false, noFacts, fun _ => 104⟩ : Cfg Try.prog)) noFacts_ok (n := 30) (f := 47) rwi_O rwi_rd rfl (by kernel_rfl) h
noncomputable def rwi_v (x0_0 x0_1 x0_2 : Int) : Int := bif (bif decide (ram_v x0_0 ≥ ram_v x0_0) then bif decide (ram_v x0_0 ≥ ram_v x0_1) then decide (ram_v x0_0 ≥ ram_v x0_2) else false else false) then (0) else bif (bif decide (ram_v x0_1 ≥ ram_v x0_0) then bif decide (ram_v x0_1 ≥ ram_v x0_1) then decide (ram_v x0_1 ≥ ram_v x0_2) else false else false) then (1) else bif (bif decide (ram_v x0_2 ≥ ram_v x0_0) then bif decide (ram_v x0_2 ≥ ram_v x0_1) then decide (ram_v x0_2 ≥ ram_v x0_2) else false else false) then (2) else 0
theorem rwi_spec (x0_0 x0_1 x0_2 : Int) : rwi_res x0_0 x0_1 x0_2 = some (rwi_v x0_0 x0_1 x0_2) := by simp only [rwi_res, rwi_v, cond_some]
noncomputable def rwi_m (args : List RV) (hp : Hp) : Option ((Int × Int × Int) × List Nat) := match args with
  | [.sv (.agg [.val _ (.int .i64 x0_0), .val _ (.int .i64 x0_1), .val _ (.int .i64 x0_2)])] => some ((x0_0, x0_1, x0_2), [])
  | _ => none
noncomputable def rwi_con : Con Try.prog := conX Try.prog 47 rwi_m 0 (fun x => [.sv (.agg [.val false (.int .i64 x.1), .val false (.int .i64 x.2.1), .val false (.int .i64 x.2.2)])]) (fun x => []) (fun x => none) (fun x => rwi_O (rwi_v x.1 x.2.1 x.2.2))
  (by
    intro args hp x r h
    unfold rwi_m at h
    split at h
    · cases h
      exact ⟨rfl, fun nx => ⟨rfl, (fun i hi => by cases hi), fun id o0 ho => by simp [hlook] at ho⟩⟩
    · cases h)
  (fun x h => ⟨rfl, rfl, rwi_tree (rwi_spec x.1 x.2.1 x.2.2)⟩)
noncomputable def consTr2 : List (Con Try.prog) := [rwi_con] ++ consTr1
end Go.Proofs.Ytpfaejbdbdjhhaa
