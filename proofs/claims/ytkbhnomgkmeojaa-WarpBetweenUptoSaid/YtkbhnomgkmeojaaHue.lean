/- What the functions of layer 5 on single kinds compute. No condition. -/
import Derived.Test.YtkbhnomgkmeojaaFix
import Derived.Test.YtkbhnomgkmeojaaHueNum
set_option linter.unusedVariables false
namespace Go.Proofs.Ytkbhnomgkmeojaa
open Go.RowKit

theorem tone_any (x : Int) (w : World) :
    Calls Try.prog 79 #[.int .i64 x] w fun e w' => e = .returned (.int .i64 (toneS x)) ∧ w = w' := by
  rcases (by omega : heldS x < 0 ∨ heldS x = 0 ∨ 0 < heldS x) with h | h | h
  · skip
    have e : posS x = 0 := by unfold posS; rw [if_pos h]
    have HT : Hid (toneS x = rootS (divS (posS x) (addS (posS x) 65536))) := Lib.hid rfl
    rw [e] at HT
    clear e
    go_enter Try.func79, Try.ntmps79
    go_wp2_with (first | (go_at_call 87; refine (clamp_any _ _).mono ?_; rintro e w' ⟨rfl, rfl⟩) | (go_at_call 114; refine (fadd_any _ _ _).mono ?_; rintro e w' ⟨rfl, rfl⟩) | (go_at_call 84; refine (fdiv_any _ _ _).mono ?_; rintro e w' ⟨rfl, rfl⟩) | (go_at_call 113; refine (froot_any _ _).mono ?_; rintro e w' ⟨rfl, rfl⟩))
    go_ret
    exact ⟨by rw [HT.out]; rfl, rfl⟩
  · skip
    have e : posS x = 0 := by unfold posS; rw [if_neg (by omega), h]
    have HT : Hid (toneS x = rootS (divS (posS x) (addS (posS x) 65536))) := Lib.hid rfl
    rw [e] at HT
    have h2 : heldS x ≤ 0 := by omega
    have h3 : 0 ≤ heldS x := by omega
    clear e
    go_enter Try.func79, Try.ntmps79
    go_wp2_with (first | (go_at_call 87; refine (clamp_any _ _).mono ?_; rintro e w' ⟨rfl, rfl⟩) | (go_at_call 114; refine (fadd_any _ _ _).mono ?_; rintro e w' ⟨rfl, rfl⟩) | (go_at_call 84; refine (fdiv_any _ _ _).mono ?_; rintro e w' ⟨rfl, rfl⟩) | (go_at_call 113; refine (froot_any _ _).mono ?_; rintro e w' ⟨rfl, rfl⟩))
    go_ret
    exact ⟨by rw [HT.out]; rfl, rfl⟩
  · skip
    have e : posS x = heldS x := by unfold posS; rw [if_neg (by omega)]
    have HT : Hid (toneS x = rootS (divS (posS x) (addS (posS x) 65536))) := Lib.hid rfl
    rw [e] at HT
    clear e
    go_enter Try.func79, Try.ntmps79
    go_wp2_with (first | (go_at_call 87; refine (clamp_any _ _).mono ?_; rintro e w' ⟨rfl, rfl⟩) | (go_at_call 114; refine (fadd_any _ _ _).mono ?_; rintro e w' ⟨rfl, rfl⟩) | (go_at_call 84; refine (fdiv_any _ _ _).mono ?_; rintro e w' ⟨rfl, rfl⟩) | (go_at_call 113; refine (froot_any _ _).mono ?_; rintro e w' ⟨rfl, rfl⟩))
    go_ret
    exact ⟨by rw [HT.out]; rfl, rfl⟩


theorem shade_any (y : Int) (w : World) :
    Calls Try.prog 80 #[.int .i64 y] w fun e w' => e = .returned (.int .u8 (shadeS y)) ∧ w = w' := by
  have hu := unS_bd y
  have hs := shadeS_bd y
  have HS : Hid (shadeS y = (255 * unS y + 32768) / 65536) := Lib.hid rfl
  rw [HS.out] at hs
  go_enter Try.func80, Try.ntmps80
  go_wp2_with (go_at_call 115; refine (funit_any _ _).mono ?_; rintro e w' ⟨rfl, rfl⟩)
  go_ret
  exact ⟨by rw [HS.out]; rfl, rfl⟩

theorem rshade_any (y : Int) (w : World) :
    Calls Try.prog 92 #[.int .i64 y] w fun e w' => e = .returned (.int .u8 (shadeS y)) ∧ w = w' := by
  have hu := unS_bd y
  have hs := shadeS_bd y
  have HS : Hid (shadeS y = (255 * unS y + 32768) / 65536) := Lib.hid rfl
  rw [HS.out] at hs
  go_enter Try.func92, Try.ntmps92
  go_wp2_with (go_at_call 120; refine (runit_any _ _).mono ?_; rintro e w' ⟨rfl, rfl⟩)
  go_ret
  exact ⟨by rw [HS.out]; rfl, rfl⟩

end Go.Proofs.Ytkbhnomgkmeojaa
