/- What the functions of layer 3 compute, by the program and by the reference: one function of plain numbers each. -/
import Derived.Test.YtlcgjkljeggjhaaFix
import Derived.Test.YtlcgjkljeggjhaaWaveNum
set_option linter.unusedVariables false
namespace Go.Proofs.Ytlcgjkljeggjhaa
open Go.RowKit








theorem ease_any (t : Int) (w : World) :
    Calls Try.prog 21 #[.int .i64 t] w fun e w' => e = .returned (.int .i64 (easeS t)) ∧ w = w' := by
  have hu := unS_bd t
  go_enter Try.func21, Try.ntmps21
  go_wp2_with (first | (go_at_call 33; refine (funit_any _ _).mono ?_; rintro e w' ⟨rfl, rfl⟩) | (go_at_call 34; refine (fmul_any _ _ _).mono ?_; rintro e w' ⟨rfl, rfl⟩) | (go_at_call 35; refine (fsub_any _ _ _).mono ?_; rintro e w' ⟨rfl, rfl⟩))
  go_ret
  exact ⟨rfl, rfl⟩

theorem rease_any (t : Int) (w : World) :
    Calls Try.prog 24 #[.int .i64 t] w fun e w' => e = .returned (.int .i64 (easeS t)) ∧ w = w' := by
  have hu := unS_bd t
  have HE := Lib.hid (easeS_ref t)
  go_enter Try.func24, Try.ntmps24
  go_wp2_with (first | (go_at_call 40; refine (runit_any _ _).mono ?_; rintro e w' ⟨rfl, rfl⟩) | (go_at_call 41; refine (rmul_any _ _ _).mono ?_; rintro e w' ⟨rfl, rfl⟩))
  go_ret
  exact ⟨by rw [← HE.out]; rfl, rfl⟩

end Go.Proofs.Ytlcgjkljeggjhaa
