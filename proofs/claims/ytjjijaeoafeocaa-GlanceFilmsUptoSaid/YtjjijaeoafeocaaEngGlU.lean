/- Where a number lies. No condition. -/
import Derived.Test.YtjjijaeoafeocaaEngFilm3
set_option linter.unusedVariables false
set_option linter.unusedSimpArgs false
namespace Go.Proofs.Ytjjijaeoafeocaa
open Go.RowKit

noncomputable def sid_O (v : Int) : Out := ⟨.sv (.one (.val false (.int .i64 v))), [], 2, []⟩
noncomputable def sid_rd (out : Out) : Option (Int) := some (rI (rvC out.v 0 0))
noncomputable def sid_res (x0 : Int) (x1 : Int) : Option (Int) := bif (decide (x0 < x1)) then (some 0) else bif (decide (x0 > x1)) then (some 2) else some 1
set_option maxRecDepth 100000 in
theorem sid_tree {x0 x1 v : Int} (h : sid_res x0 x1 = some v) : CallOk Try.prog 37 [.sv (.one (.val false (.int .i64 x0))), .sv (.one (.val false (.int .i64 x1)))] [] 0 (sid_O v) :=
  eng_tree (C := (⟨[], fun _ _ _ => none, fun f => false, noFacts, fun _ => 104⟩ : Cfg Try.prog)) noFacts_ok (n := 30) (f := 37) sid_O sid_rd rfl (by kernel_rfl) h
noncomputable def sid_v (x0 : Int) (x1 : Int) : Int := bif (decide (x0 < x1)) then (0) else bif (decide (x0 > x1)) then (2) else 1
theorem sid_spec (x0 : Int) (x1 : Int) : sid_res x0 x1 = some (sid_v x0 x1) := by simp only [sid_res, sid_v, cond_some]
noncomputable def sid_m (args : List RV) (hp : Hp) : Option ((Int × Int) × List Nat) := match args with
  | [.sv (.one (.val _ (.int .i64 x0))), .sv (.one (.val _ (.int .i64 x1)))] => some ((x0, x1), [])
  | _ => none
noncomputable def sid_con : Con Try.prog := conX Try.prog 37 sid_m 0 (fun x => [.sv (.one (.val false (.int .i64 x.1))), .sv (.one (.val false (.int .i64 x.2)))]) (fun x => []) (fun x => none) (fun x => sid_O (sid_v x.1 x.2))
  (by
    intro args hp x r h
    unfold sid_m at h
    split at h
    · cases h
      exact ⟨rfl, fun nx => ⟨rfl, (fun i hi => by cases hi), fun id o0 ho => by simp [hlook] at ho⟩⟩
    · cases h)
  (fun x h => ⟨rfl, rfl, sid_tree (sid_spec x.1 x.2)⟩)
noncomputable def consGlU : List (Con Try.prog) := [sid_con] ++ consFilm3
end Go.Proofs.Ytjjijaeoafeocaa
