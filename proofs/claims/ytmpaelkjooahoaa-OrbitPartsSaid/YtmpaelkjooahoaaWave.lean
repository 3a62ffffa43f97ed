/- What the functions of layer 3 compute, by the program and by the reference: one function of plain numbers each. -/
import Derived.Test.YtmpaelkjooahoaaFix
import Derived.Test.YtmpaelkjooahoaaWaveNum
set_option linter.unusedVariables false
namespace Go.Proofs.Ytmpaelkjooahoaa
open Go.RowKit

theorem half_any (y : Int) (w : World) :
    Calls Try.prog 79 #[.int .i64 y] w fun e w' => e = .returned (.int .i64 (halfS y)) ∧ w = w' := by
  have hp := halfP_bd y
  have HP : halfP y = mulS y (subS 65536 y) := rfl
  have HQ := Lib.hid HP
  have HV : Hid (halfS y = divS (16 * halfP y) (327680 - 4 * halfP y)) := Lib.hid rfl
  rw [HP] at hp HV
  clear HP
  go_enter Try.func79, Try.ntmps79
  go_wp2_with (first | (go_at_call 59; refine (fsub_any _ _ _).mono ?_; rintro e w' ⟨rfl, rfl⟩) | (go_at_call 38; refine (fmul_any _ _ _).mono ?_; rintro e w' ⟨rfl, rfl⟩) | (go_at_call 39; refine (fdiv_any _ _ _).mono ?_; rintro e w' ⟨rfl, rfl⟩))
  go_ret
  exact ⟨by rw [HV.out]; rfl, rfl⟩

theorem rhalf_any (y : Int) (w : World) (h0 : 0 ≤ y) (h1 : y ≤ 65536) :
    Calls Try.prog 81 #[.int .i64 y] w fun e w' => e = .returned (.int .i64 (halfS y)) ∧ w = w' := by
  have hp := halfP_span h0 h1
  have he := halfP_of h0 h1
  have hm := mul_bd (x := y) (y := 65536 - y) (B := 65536) (C := 65536) (by omega) (by omega) (by omega) (by omega)
  have hw := wrap_of (n := y * (65536 - y)) (by omega) (by omega)
  have HV : Hid (halfS y = divS (16 * halfP y) (327680 - 4 * halfP y)) := Lib.hid rfl
  rw [he] at hp HV
  clear he
  go_enter Try.func81, Try.ntmps81
  go_wp2_with (first | (go_at_call 71; refine (rdown_any _ _ _ (by omega) (by omega) (by omega) (by omega)).mono ?_; rintro e w' ⟨rfl, rfl⟩) | (go_at_call 73; refine (rdiv_any _ _ _).mono ?_; rintro e w' ⟨rfl, rfl⟩))
  go_ret
  exact ⟨by rw [HV.out]; rfl, rfl⟩

theorem sin_any (x : Int) (w : World) :
    Calls Try.prog 43 #[.int .i64 x] w fun e w' => e = .returned (.int .i64 (sinS x)) ∧ w = w' := by
  have hp := partS_bd x
  have hb1 := halfS_bd (2 * partS x)
  have hb2 := halfS_bd (2 * partS x - 65536)
  rcases (by omega : partS x < 32768 ∨ 32768 ≤ partS x) with h | h
  · skip
    go_enter Try.func43, Try.ntmps43
    go_wp2_with (first | (go_at_call 78; refine (fpart_any _ _).mono ?_; rintro e w' ⟨rfl, rfl⟩) | (go_at_call 79; refine (half_any _ _).mono ?_; rintro e w' ⟨rfl, rfl⟩))
    go_ret
    exact ⟨by unfold sinS; rw [if_pos h]; rfl, rfl⟩
  · skip
    go_enter Try.func43, Try.ntmps43
    go_wp2_with (first | (go_at_call 78; refine (fpart_any _ _).mono ?_; rintro e w' ⟨rfl, rfl⟩) | (go_at_call 79; refine (half_any _ _).mono ?_; rintro e w' ⟨rfl, rfl⟩))
    go_ret
    exact ⟨by unfold sinS; rw [if_neg (by omega)]; rfl, rfl⟩

theorem rsin_any (x : Int) (w : World) :
    Calls Try.prog 47 #[.int .i64 x] w fun e w' => e = .returned (.int .i64 (sinS x)) ∧ w = w' := by
  have hp := partS_bd x
  have hh := heldS_bd x
  have hb1 := halfS_bd (2 * partS x)
  have hb2 := halfS_bd (2 * partS x - 65536)
  have he : heldS x - heldS x / 65536 * 65536 = partS x := by unfold partS; omega
  rcases (by omega : partS x < 32768 ∨ 32768 ≤ partS x) with h | h
  · skip
    go_enter Try.func47, Try.ntmps47
    go_wp2_with (first | (go_at_call 70; refine (held_any _ _).mono ?_; rintro e w' ⟨rfl, rfl⟩) | (go_at_call 71; refine (rdown_any _ _ _ (by omega) (by omega) (by omega) (by omega)).mono ?_; rintro e w' ⟨rfl, rfl⟩) | (go_at_call 81; refine (rhalf_any _ _ (by omega) (by omega)).mono ?_; rintro e w' ⟨rfl, rfl⟩))
    go_ret
    exact ⟨by unfold sinS; rw [if_pos h]; rfl, rfl⟩
  · skip
    go_enter Try.func47, Try.ntmps47
    go_wp2_with (first | (go_at_call 70; refine (held_any _ _).mono ?_; rintro e w' ⟨rfl, rfl⟩) | (go_at_call 71; refine (rdown_any _ _ _ (by omega) (by omega) (by omega) (by omega)).mono ?_; rintro e w' ⟨rfl, rfl⟩) | (go_at_call 81; refine (rhalf_any _ _ (by omega) (by omega)).mono ?_; rintro e w' ⟨rfl, rfl⟩))
    go_ret
    exact ⟨by unfold sinS; rw [if_neg (by omega)]; rfl, rfl⟩

theorem cos_any (x : Int) (w : World) :
    Calls Try.prog 42 #[.int .i64 x] w fun e w' => e = .returned (.int .i64 (cosS x)) ∧ w = w' := by
  have hp := partS_bd x
  go_enter Try.func42, Try.ntmps42
  go_wp2_with (first | (go_at_call 78; refine (fpart_any _ _).mono ?_; rintro e w' ⟨rfl, rfl⟩) | (go_at_call 43; refine (sin_any _ _).mono ?_; rintro e w' ⟨rfl, rfl⟩))
  go_ret
  exact ⟨rfl, rfl⟩

theorem rcos_any (x : Int) (w : World) :
    Calls Try.prog 46 #[.int .i64 x] w fun e w' => e = .returned (.int .i64 (cosS x)) ∧ w = w' := by
  have hh := heldS_bd x
  have ht := tmod_bd (heldS x) 65536 (by omega)
  have HC := Lib.hid (cosS_ref x)
  go_enter Try.func46, Try.ntmps46
  go_wp2_with (first | (go_at_call 70; refine (held_any _ _).mono ?_; rintro e w' ⟨rfl, rfl⟩) | (go_at_call 47; refine (rsin_any _ _).mono ?_; rintro e w' ⟨rfl, rfl⟩))
  go_ret
  exact ⟨by rw [← HC.out]; rfl, rfl⟩


theorem ease_any (t : Int) (w : World) :
    Calls Try.prog 91 #[.int .i64 t] w fun e w' => e = .returned (.int .i64 (easeS t)) ∧ w = w' := by
  have hu := unS_bd t
  go_enter Try.func91, Try.ntmps91
  go_wp2_with (first | (go_at_call 103; refine (funit_any _ _).mono ?_; rintro e w' ⟨rfl, rfl⟩) | (go_at_call 38; refine (fmul_any _ _ _).mono ?_; rintro e w' ⟨rfl, rfl⟩) | (go_at_call 59; refine (fsub_any _ _ _).mono ?_; rintro e w' ⟨rfl, rfl⟩))
  go_ret
  exact ⟨rfl, rfl⟩

theorem rease_any (t : Int) (w : World) :
    Calls Try.prog 94 #[.int .i64 t] w fun e w' => e = .returned (.int .i64 (easeS t)) ∧ w = w' := by
  have hu := unS_bd t
  have HE := Lib.hid (easeS_ref t)
  go_enter Try.func94, Try.ntmps94
  go_wp2_with (first | (go_at_call 72; refine (runit_any _ _).mono ?_; rintro e w' ⟨rfl, rfl⟩) | (go_at_call 45; refine (rmul_any _ _ _).mono ?_; rintro e w' ⟨rfl, rfl⟩))
  go_ret
  exact ⟨by rw [← HE.out]; rfl, rfl⟩

end Go.Proofs.Ytmpaelkjooahoaa
