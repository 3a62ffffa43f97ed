/- The example of layer 39 holds. No condition. -/
import Derived.Test.YtonlllijdbjkaaaEngGt6
set_option linter.unusedVariables false
set_option linter.unusedSimpArgs false
namespace Go.Proofs.Ytonlllijdbjkaaa
open Go.RowKit

theorem awk_at : awk_c47416075 = 65536 := by
  have hr : RightP [[Ct.i 0, Ct.i 0], [Ct.i 65536, Ct.i 131072]] := by
    refine ⟨by decide, by decide, fun k hk => ?_⟩
    have hk : k = 0 ∨ k = 1 := by simp at hk; omega
    rcases hk with rfl | rfl
    · exact ⟨by decide, by decide, by decide, by decide, by decide⟩
    · exact ⟨by decide, by decide, by decide, by decide, by decide⟩
  unfold awk_c47416075
  show atV _ _ = _
  unfold atV
  rw [rightS_true hr]
  decide +kernel
theorem awk_tab : awk_c87639024.snd = 0 ∧ awk_c87639024.fst.length = 256 ∧ (rd awk_c87639024.fst 10 0).int = 0 ∧ (rd awk_c87639024.fst 15 0).int = 127 ∧ (rd awk_c87639024.fst 20 0).int = 255 := by
  have h : awk_c87639024 = (sprT [[Ct.i 10, Ct.i 20, Ct.i 20]], 0) := rfl
  have he : ends [[Ct.i 10, Ct.i 20, Ct.i 20]] = (10, 20) := by decide +kernel
  rw [h]
  refine ⟨rfl, tab_length _ _, ?_, ?_, ?_⟩
  all_goals
    simp only [sprT, he]
    rw [rd_tab (by omega)]
    decide +kernel
theorem awk_true : awk_res = some () ∧ (awk_O ()).v.den env0 = .bool true := by
  obtain ⟨h1, h2, h3, h4, h5⟩ := awk_tab
  have hb : byteB [[Ct.i (10 : Int), Ct.i (20 : Int), Ct.i (20 : Int)]] 3 = true := by decide +kernel
  have e1 : Int.toNat 10 = 10 := rfl
  have e2 : Int.toNat 15 = 15 := rfl
  have e3 : Int.toNat 20 = 20 := rfl
  constructor
  · simp [awk_res, awk_at, h1, h2, h3, h4, h5, e1, e2, e3, hb, -List.reduceReplicate]
  · simp [awk_O, RV.den, SV.den, CV.den, awk_at, h1, h2, h3, h4, h5, e1, e2, e3]
theorem awake39E (w : World) : Calls Try.prog 7 #[] w fun e w' => e = .returned (.bool true) ∧ Below w.heap.size w w' :=
  value_of (V := .bool true) (awk_tree awk_true.1) (by show some _ = _; rw [awk_true.2]) w
noncomputable def consGrade4 : List (Con Try.prog) := conC Try.prog 7 (.bool true) awake39E :: consGrade3
end Go.Proofs.Ytonlllijdbjkaaa
