/- The law GradeCurves: it answers true for all values. No condition. -/
import Derived.Test.YtonlllijdbjkaaaEngGrade4
set_option linter.unusedVariables false
set_option linter.unusedSimpArgs false
namespace Go.Proofs.Ytonlllijdbjkaaa
open Go.RowKit

noncomputable def lgc_O (v : Bool) : Out := ⟨.sv (.one (.val false (.bool v))), [], 118, []⟩
noncomputable def lgc_rd (out : Out) : Option (Bool) := some (rB (rvC out.v 0 0))
noncomputable def lgc_res (x0 : List (List Ct)) (x1 : Int) : Option (Bool) := bif (decide ((↑x0.length : Int) > (40 : Int))) then (some true) else bif (decide (x0.length ≤ 1000)) then bif (cright_v (gto_v x0) == rright_v x0) then (bif (cat_v (gto_v x0) x1 == rat_v x0 x1) then (bif (decide ((gto_v x0).length ≤ 1000)) then bif (decide (x0.length ≤ 1000)) then some (crise_v (gto_v x0) == rrise_v x0) else none else none) else some false) else some false else none
set_option maxRecDepth 100000 in
theorem lgc_tree {x0 : List (List Ct)} {x1 : Int} {v : Bool} (h : lgc_res x0 x1 = some v) : CallOk Try.prog 3 [.sv (.one (.ext 0)), .sv (.one (.val false (.int .i64 x1)))] [(0, .grid [.int .i64, .int .i64] x0)] 1 (lgc_O v) :=
  eng_tree (C := (⟨consGrade4, fun _ _ _ => none, fun f => ⟨false, Nat.beq f 3⟩, noFacts, fun _ => 4⟩ : Cfg Try.prog)) noFacts_ok (n := 30) (f := 3) lgc_O lgc_rd rfl (by kernel_rfl) h
theorem gto_same (x0 : List (List Ct)) : SameL (gto_v x0) x0 := by
  refine ⟨tab_length _ _, fun k hk => ?_, fun k hk => ?_⟩
  · have hk' : k < x0.length := by rw [show (gto_v x0).length = x0.length from tab_length _ _] at hk; exact hk
    unfold gto_v
    rw [rd_tab hk']; rfl
  · have hk' : k < x0.length := by rw [show (gto_v x0).length = x0.length from tab_length _ _] at hk; exact hk
    unfold gto_v
    rw [rd_tab hk']; rfl
theorem lgc_true (x0 : List (List Ct)) (x1 : Int) : lgc_res x0 x1 = some true := by
  by_cases h40 : x0.length ≤ 40
  rotate_left
  · have : (40 : Int) < x0.length := by omega
    simp [lgc_res, this]
  have g3 : ¬ (40 : Int) < x0.length := by omega
  have g4 : ¬ 40 < x0.length := by omega
  have hs := gto_same x0
  have hl : (gto_v x0).length = x0.length := hs.len
  have o : x0.length ≤ 1000 := by omega
  have e1 : cright_v (gto_v x0) = rright_v x0 := hs.right
  have e2 : cat_v (gto_v x0) x1 = rat_v x0 x1 := hs.at' x1
  have e3 : crise_v (gto_v x0) = rrise_v x0 := by
    show riseV (gto_v x0) = riseV x0
    unfold riseV
    rw [hs.right, hs.rise]
  simp [lgc_res, g3, g4, hl, o, e1, e2, e3]
theorem lgc_call (x0 : List (List Ct)) (x1 : Int) : CallOk Try.prog 3 [.sv (.one (.ext 0)), .sv (.one (.val false (.int .i64 x1)))] [(0, .grid [.int .i64, .int .i64] x0)] 1 (lgc_O true) := lgc_tree (lgc_true x0 x1)
end Go.Proofs.Ytonlllijdbjkaaa
