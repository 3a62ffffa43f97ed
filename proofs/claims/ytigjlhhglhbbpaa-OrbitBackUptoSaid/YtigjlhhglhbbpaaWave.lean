/- What the functions of layer 3 compute, by the program and by the reference: one function of plain numbers each. -/
import Derived.Test.YtigjlhhglhbbpaaFix
import Derived.Test.YtigjlhhglhbbpaaWaveNum
set_option linter.unusedVariables false
namespace Go.Proofs.Ytigjlhhglhbbpaa
open Go.RowKit

theorem half_any (y : Int) (w : World) :
    Calls Try.prog 114 #[.int .i64 y] w fun e w' => e = .returned (.int .i64 (halfS y)) ∧ w = w' := by
  have hp := halfP_bd y
  have HP : halfP y = mulS y (subS 65536 y) := rfl
  have HQ := Lib.hid HP
  have HV : Hid (halfS y = divS (16 * halfP y) (327680 - 4 * halfP y)) := Lib.hid rfl
  rw [HP] at hp HV
  clear HP
  go_enter Try.func114, Try.ntmps114
  go_wp2_with (first | (go_at_call 79; refine (fsub_any _ _ _).mono ?_; rintro e w' ⟨rfl, rfl⟩) | (go_at_call 58; refine (fmul_any _ _ _).mono ?_; rintro e w' ⟨rfl, rfl⟩) | (go_at_call 59; refine (fdiv_any _ _ _).mono ?_; rintro e w' ⟨rfl, rfl⟩))
  go_ret
  exact ⟨by rw [HV.out]; rfl, rfl⟩

theorem rhalf_any (y : Int) (w : World) (h0 : 0 ≤ y) (h1 : y ≤ 65536) :
    Calls Try.prog 116 #[.int .i64 y] w fun e w' => e = .returned (.int .i64 (halfS y)) ∧ w = w' := by
  have hp := halfP_span h0 h1
  have he := halfP_of h0 h1
  have hm := mul_bd (x := y) (y := 65536 - y) (B := 65536) (C := 65536) (by omega) (by omega) (by omega) (by omega)
  have hw := wrap_of (n := y * (65536 - y)) (by omega) (by omega)
  have HV : Hid (halfS y = divS (16 * halfP y) (327680 - 4 * halfP y)) := Lib.hid rfl
  rw [he] at hp HV
  clear he
  go_enter Try.func116, Try.ntmps116
  go_wp2_with (first | (go_at_call 106; refine (rdown_any _ _ _ (by omega) (by omega) (by omega) (by omega)).mono ?_; rintro e w' ⟨rfl, rfl⟩) | (go_at_call 108; refine (rdiv_any _ _ _).mono ?_; rintro e w' ⟨rfl, rfl⟩))
  go_ret
  exact ⟨by rw [HV.out]; rfl, rfl⟩

theorem sin_any (x : Int) (w : World) :
    Calls Try.prog 63 #[.int .i64 x] w fun e w' => e = .returned (.int .i64 (sinS x)) ∧ w = w' := by
  have hp := partS_bd x
  have hb1 := halfS_bd (2 * partS x)
  have hb2 := halfS_bd (2 * partS x - 65536)
  rcases (by omega : partS x < 32768 ∨ 32768 ≤ partS x) with h | h
  · skip
    go_enter Try.func63, Try.ntmps63
    go_wp2_with (first | (go_at_call 113; refine (fpart_any _ _).mono ?_; rintro e w' ⟨rfl, rfl⟩) | (go_at_call 114; refine (half_any _ _).mono ?_; rintro e w' ⟨rfl, rfl⟩))
    go_ret
    exact ⟨by unfold sinS; rw [if_pos h]; rfl, rfl⟩
  · skip
    go_enter Try.func63, Try.ntmps63
    go_wp2_with (first | (go_at_call 113; refine (fpart_any _ _).mono ?_; rintro e w' ⟨rfl, rfl⟩) | (go_at_call 114; refine (half_any _ _).mono ?_; rintro e w' ⟨rfl, rfl⟩))
    go_ret
    exact ⟨by unfold sinS; rw [if_neg (by omega)]; rfl, rfl⟩

theorem rsin_any (x : Int) (w : World) :
    Calls Try.prog 67 #[.int .i64 x] w fun e w' => e = .returned (.int .i64 (sinS x)) ∧ w = w' := by
  have hp := partS_bd x
  have hh := heldS_bd x
  have hb1 := halfS_bd (2 * partS x)
  have hb2 := halfS_bd (2 * partS x - 65536)
  have he : heldS x - heldS x / 65536 * 65536 = partS x := by unfold partS; omega
  rcases (by omega : partS x < 32768 ∨ 32768 ≤ partS x) with h | h
  · skip
    go_enter Try.func67, Try.ntmps67
    go_wp2_with (first | (go_at_call 105; refine (held_any _ _).mono ?_; rintro e w' ⟨rfl, rfl⟩) | (go_at_call 106; refine (rdown_any _ _ _ (by omega) (by omega) (by omega) (by omega)).mono ?_; rintro e w' ⟨rfl, rfl⟩) | (go_at_call 116; refine (rhalf_any _ _ (by omega) (by omega)).mono ?_; rintro e w' ⟨rfl, rfl⟩))
    go_ret
    exact ⟨by unfold sinS; rw [if_pos h]; rfl, rfl⟩
  · skip
    go_enter Try.func67, Try.ntmps67
    go_wp2_with (first | (go_at_call 105; refine (held_any _ _).mono ?_; rintro e w' ⟨rfl, rfl⟩) | (go_at_call 106; refine (rdown_any _ _ _ (by omega) (by omega) (by omega) (by omega)).mono ?_; rintro e w' ⟨rfl, rfl⟩) | (go_at_call 116; refine (rhalf_any _ _ (by omega) (by omega)).mono ?_; rintro e w' ⟨rfl, rfl⟩))
    go_ret
    exact ⟨by unfold sinS; rw [if_neg (by omega)]; rfl, rfl⟩

theorem cos_any (x : Int) (w : World) :
    Calls Try.prog 62 #[.int .i64 x] w fun e w' => e = .returned (.int .i64 (cosS x)) ∧ w = w' := by
  have hp := partS_bd x
  go_enter Try.func62, Try.ntmps62
  go_wp2_with (first | (go_at_call 113; refine (fpart_any _ _).mono ?_; rintro e w' ⟨rfl, rfl⟩) | (go_at_call 63; refine (sin_any _ _).mono ?_; rintro e w' ⟨rfl, rfl⟩))
  go_ret
  exact ⟨rfl, rfl⟩

theorem rcos_any (x : Int) (w : World) :
    Calls Try.prog 66 #[.int .i64 x] w fun e w' => e = .returned (.int .i64 (cosS x)) ∧ w = w' := by
  have hh := heldS_bd x
  have ht := tmod_bd (heldS x) 65536 (by omega)
  have HC := Lib.hid (cosS_ref x)
  go_enter Try.func66, Try.ntmps66
  go_wp2_with (first | (go_at_call 105; refine (held_any _ _).mono ?_; rintro e w' ⟨rfl, rfl⟩) | (go_at_call 67; refine (rsin_any _ _).mono ?_; rintro e w' ⟨rfl, rfl⟩))
  go_ret
  exact ⟨by rw [← HC.out]; rfl, rfl⟩


theorem ease_any (t : Int) (w : World) :
    Calls Try.prog 126 #[.int .i64 t] w fun e w' => e = .returned (.int .i64 (easeS t)) ∧ w = w' := by
  have hu := unS_bd t
  go_enter Try.func126, Try.ntmps126
  go_wp2_with (first | (go_at_call 147; refine (funit_any _ _).mono ?_; rintro e w' ⟨rfl, rfl⟩) | (go_at_call 58; refine (fmul_any _ _ _).mono ?_; rintro e w' ⟨rfl, rfl⟩) | (go_at_call 79; refine (fsub_any _ _ _).mono ?_; rintro e w' ⟨rfl, rfl⟩))
  go_ret
  exact ⟨rfl, rfl⟩

theorem rease_any (t : Int) (w : World) :
    Calls Try.prog 129 #[.int .i64 t] w fun e w' => e = .returned (.int .i64 (easeS t)) ∧ w = w' := by
  have hu := unS_bd t
  have HE := Lib.hid (easeS_ref t)
  go_enter Try.func129, Try.ntmps129
  go_wp2_with (first | (go_at_call 107; refine (runit_any _ _).mono ?_; rintro e w' ⟨rfl, rfl⟩) | (go_at_call 65; refine (rmul_any _ _ _).mono ?_; rintro e w' ⟨rfl, rfl⟩))
  go_ret
  exact ⟨by rw [← HE.out]; rfl, rfl⟩

end Go.Proofs.Ytigjlhhglhbbpaa
