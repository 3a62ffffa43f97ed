/- The table of a curve, plainly. No condition. -/
import Derived.Test.YtonlllijdbjkaaaEngGtA
set_option linter.unusedVariables false
set_option linter.unusedSimpArgs false
namespace Go.Proofs.Ytonlllijdbjkaaa
open Go.RowKit

noncomputable def makeT (l : List (List Ct)) : List (List Ct) := tab (fun k => [.i (shadeS (atV l (divS (ofS k) 16711680)))]) 256
theorem gmk_some (x0 : List (List Ct)) : gmk_res x0 = some (makeT x0) := by
  have h : iter (gmk_L0_step x0) 257 (0, List.replicate 256 [Ct.i 0]) = some (256, makeT x0) := by
    refine iter_arr (n := 256) (fun k => .i (shadeS (atV x0 (divS (ofS k) 16711680)))) (fun k l hk hl => ?_) (fun l hl => by simp [gmk_L0_step]) rfl
    have h1 : (k : Int) < 256 := by omega
    have w1 := wrap_succ (k := k) (by omega)
    simp [gmk_L0_step, h1, hl, w1, upd1, hk]
    rfl
  have h1 : gmk_L0_p x0 = true := by unfold gmk_L0_p; rw [h]; rfl
  have h2 : gmk_L0_v x0 = (256, makeT x0) := by unfold gmk_L0_v loopRes; rw [h]; rfl
  have h3 : (makeT x0).length = 256 := tab_length _ _
  simp [gmk_res, h1, h2, h3, -List.reduceReplicate]
theorem rmk_some (x0 : List (List Ct)) : rmk_res x0 = some (makeT x0) := by
  have h : iter (rmk_L0_step x0) 257 (0, List.replicate 256 [Ct.i 0]) = some (256, makeT x0) := by
    refine iter_arr (n := 256) (fun k => .i (shadeS (atV x0 (divS (ofS k) 16711680)))) (fun k l hk hl => ?_) (fun l hl => by simp [rmk_L0_step]) rfl
    have h1 : (k : Int) < 256 := by omega
    have w1 := wrap_succ (k := k) (by omega)
    simp [rmk_L0_step, h1, hl, w1, upd1, hk]
    rfl
  have h1 : rmk_L0_p x0 = true := by unfold rmk_L0_p; rw [h]; rfl
  have h2 : rmk_L0_v x0 = (256, makeT x0) := by unfold rmk_L0_v loopRes; rw [h]; rfl
  have h3 : (makeT x0).length = 256 := tab_length _ _
  simp [rmk_res, h1, h2, h3, -List.reduceReplicate]
theorem makeT_length {l : List (List Ct)} : (makeT l).length = 256 := tab_length _ _
theorem makeT_bytes {l : List (List Ct)} : ByteL (makeT l) 1 := by
  intro i hi j hj
  obtain rfl : j = 0 := by omega
  rw [makeT_length] at hi
  unfold makeT
  rw [rd_tab hi]
  have := shadeS_bd (atV l (divS (ofS i) 16711680))
  show 0 ≤ shadeS _ ∧ shadeS _ < 256
  omega
end Go.Proofs.Ytonlllijdbjkaaa
