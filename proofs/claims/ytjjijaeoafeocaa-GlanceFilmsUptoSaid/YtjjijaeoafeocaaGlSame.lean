/- The same lines are the same. No condition. -/
import Derived.Test.YtjjijaeoafeocaaLoopA
import Derived.Test.YtjjijaeoafeocaaEngGl3
set_option linter.unusedVariables false
set_option linter.unusedSimpArgs false
namespace Go.Proofs.Ytjjijaeoafeocaa
open Go.RowKit

theorem sam_refl (l : List (List Ct)) (h : l.length ≤ 9223372036854775807) : sam_res l l = some true := by
  have i : iter (sam_L0_step l l) (l.length + 1) 0 = some (match findB (fun _ => false) l.length 0 with | some i => .inr ((fun _ => ()) i) | none => .inl (l.length : Int)) := by
    refine iter_find (fun _ => false) (fun _ => ()) (fun k hk => ?_) ?_ (by omega)
    · simp only [sam_L0_step]
      refine (cond_decI (by omega)).trans ?_
      refine (cond_decI (by omega)).trans ?_
      refine (cond_decI (by omega)).trans ?_
      rw [wrap_succ (by omega)]
      simp
    · simp only [sam_L0_step]
      exact cond_notI (by omega)
  rw [findB_none.2 (fun _ _ _ => rfl)] at i
  have p : sam_L0_p l l = true := by unfold sam_L0_p; rw [i]; rfl
  have v : sam_L0_v l l = .inl (l.length : Int) := by unfold sam_L0_v; rw [i]; rfl
  simp only [sam_res, p, v, isL, cond_true, bne_self_eq_false, cond_false]
theorem sam_vrefl (l : List (List Ct)) (h : l.length ≤ 9223372036854775807) : sam_v l l = true := by unfold sam_v; rw [sam_refl l h]; rfl
end Go.Proofs.Ytjjijaeoafeocaa
