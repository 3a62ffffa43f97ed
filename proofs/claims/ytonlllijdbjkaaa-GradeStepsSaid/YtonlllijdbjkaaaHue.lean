/- What the functions of layer 5 on single kinds compute. No condition. -/
import Derived.Test.YtonlllijdbjkaaaFix
import Derived.Test.YtonlllijdbjkaaaHueNum
set_option linter.unusedVariables false
namespace Go.Proofs.Ytonlllijdbjkaaa
open Go.RowKit



theorem shade_any (y : Int) (w : World) :
    Calls Try.prog 42 #[.int .i64 y] w fun e w' => e = .returned (.int .u8 (shadeS y)) ∧ w = w' := by
  have hu := unS_bd y
  have hs := shadeS_bd y
  have HS : Hid (shadeS y = (255 * unS y + 32768) / 65536) := Lib.hid rfl
  rw [HS.out] at hs
  go_enter Try.func42, Try.ntmps42
  go_wp2_with (go_at_call 60; refine (funit_any _ _).mono ?_; rintro e w' ⟨rfl, rfl⟩)
  go_ret
  exact ⟨by rw [HS.out]; rfl, rfl⟩

theorem rshade_any (y : Int) (w : World) :
    Calls Try.prog 45 #[.int .i64 y] w fun e w' => e = .returned (.int .u8 (shadeS y)) ∧ w = w' := by
  have hu := unS_bd y
  have hs := shadeS_bd y
  have HS : Hid (shadeS y = (255 * unS y + 32768) / 65536) := Lib.hid rfl
  rw [HS.out] at hs
  go_enter Try.func45, Try.ntmps45
  go_wp2_with (go_at_call 63; refine (runit_any _ _).mono ?_; rintro e w' ⟨rfl, rfl⟩)
  go_ret
  exact ⟨by rw [HS.out]; rfl, rfl⟩

end Go.Proofs.Ytonlllijdbjkaaa
