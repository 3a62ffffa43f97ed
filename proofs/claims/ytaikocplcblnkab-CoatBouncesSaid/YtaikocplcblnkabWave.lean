/- What the functions of layer 3 compute, by the program and by the reference: one function of plain numbers each. -/
import Derived.Test.YtaikocplcblnkabFix
import Derived.Test.YtaikocplcblnkabWaveNum
set_option linter.unusedVariables false
namespace Go.Proofs.Ytaikocplcblnkab
open Go.RowKit

theorem half_any (y : Int) (w : World) :
    Calls Try.prog 179 #[.int .i64 y] w fun e w' => e = .returned (.int .i64 (halfS y)) ∧ w = w' := by
  have hp := halfP_bd y
  have HP : halfP y = mulS y (subS 65536 y) := rfl
  have HQ := Lib.hid HP
  have HV : Hid (halfS y = divS (16 * halfP y) (327680 - 4 * halfP y)) := Lib.hid rfl
  rw [HP] at hp HV
  clear HP
  go_enter Try.func179, Try.ntmps179
  go_wp2_with (first | (go_at_call 109; refine (fsub_any _ _ _).mono ?_; rintro e w' ⟨rfl, rfl⟩) | (go_at_call 111; refine (fmul_any _ _ _).mono ?_; rintro e w' ⟨rfl, rfl⟩) | (go_at_call 117; refine (fdiv_any _ _ _).mono ?_; rintro e w' ⟨rfl, rfl⟩))
  go_ret
  exact ⟨by rw [HV.out]; rfl, rfl⟩

theorem rhalf_any (y : Int) (w : World) (h0 : 0 ≤ y) (h1 : y ≤ 65536) :
    Calls Try.prog 180 #[.int .i64 y] w fun e w' => e = .returned (.int .i64 (halfS y)) ∧ w = w' := by
  have hp := halfP_span h0 h1
  have he := halfP_of h0 h1
  have hm := mul_bd (x := y) (y := 65536 - y) (B := 65536) (C := 65536) (by omega) (by omega) (by omega) (by omega)
  have hw := wrap_of (n := y * (65536 - y)) (by omega) (by omega)
  have HV : Hid (halfS y = divS (16 * halfP y) (327680 - 4 * halfP y)) := Lib.hid rfl
  rw [he] at hp HV
  clear he
  go_enter Try.func180, Try.ntmps180
  go_wp2_with (first | (go_at_call 140; refine (rdown_any _ _ _ (by omega) (by omega) (by omega) (by omega)).mono ?_; rintro e w' ⟨rfl, rfl⟩) | (go_at_call 118; refine (rdiv_any _ _ _).mono ?_; rintro e w' ⟨rfl, rfl⟩))
  go_ret
  exact ⟨by rw [HV.out]; rfl, rfl⟩

theorem sin_any (x : Int) (w : World) :
    Calls Try.prog 174 #[.int .i64 x] w fun e w' => e = .returned (.int .i64 (sinS x)) ∧ w = w' := by
  have hp := partS_bd x
  have hb1 := halfS_bd (2 * partS x)
  have hb2 := halfS_bd (2 * partS x - 65536)
  rcases (by omega : partS x < 32768 ∨ 32768 ≤ partS x) with h | h
  · skip
    go_enter Try.func174, Try.ntmps174
    go_wp2_with (first | (go_at_call 178; refine (fpart_any _ _).mono ?_; rintro e w' ⟨rfl, rfl⟩) | (go_at_call 179; refine (half_any _ _).mono ?_; rintro e w' ⟨rfl, rfl⟩))
    go_ret
    exact ⟨by unfold sinS; rw [if_pos h]; rfl, rfl⟩
  · skip
    go_enter Try.func174, Try.ntmps174
    go_wp2_with (first | (go_at_call 178; refine (fpart_any _ _).mono ?_; rintro e w' ⟨rfl, rfl⟩) | (go_at_call 179; refine (half_any _ _).mono ?_; rintro e w' ⟨rfl, rfl⟩))
    go_ret
    exact ⟨by unfold sinS; rw [if_neg (by omega)]; rfl, rfl⟩

theorem rsin_any (x : Int) (w : World) :
    Calls Try.prog 177 #[.int .i64 x] w fun e w' => e = .returned (.int .i64 (sinS x)) ∧ w = w' := by
  have hp := partS_bd x
  have hh := heldS_bd x
  have hb1 := halfS_bd (2 * partS x)
  have hb2 := halfS_bd (2 * partS x - 65536)
  have he : heldS x - heldS x / 65536 * 65536 = partS x := by unfold partS; omega
  rcases (by omega : partS x < 32768 ∨ 32768 ≤ partS x) with h | h
  · skip
    go_enter Try.func177, Try.ntmps177
    go_wp2_with (first | (go_at_call 95; refine (held_any _ _).mono ?_; rintro e w' ⟨rfl, rfl⟩) | (go_at_call 140; refine (rdown_any _ _ _ (by omega) (by omega) (by omega) (by omega)).mono ?_; rintro e w' ⟨rfl, rfl⟩) | (go_at_call 180; refine (rhalf_any _ _ (by omega) (by omega)).mono ?_; rintro e w' ⟨rfl, rfl⟩))
    go_ret
    exact ⟨by unfold sinS; rw [if_pos h]; rfl, rfl⟩
  · skip
    go_enter Try.func177, Try.ntmps177
    go_wp2_with (first | (go_at_call 95; refine (held_any _ _).mono ?_; rintro e w' ⟨rfl, rfl⟩) | (go_at_call 140; refine (rdown_any _ _ _ (by omega) (by omega) (by omega) (by omega)).mono ?_; rintro e w' ⟨rfl, rfl⟩) | (go_at_call 180; refine (rhalf_any _ _ (by omega) (by omega)).mono ?_; rintro e w' ⟨rfl, rfl⟩))
    go_ret
    exact ⟨by unfold sinS; rw [if_neg (by omega)]; rfl, rfl⟩

theorem cos_any (x : Int) (w : World) :
    Calls Try.prog 173 #[.int .i64 x] w fun e w' => e = .returned (.int .i64 (cosS x)) ∧ w = w' := by
  have hp := partS_bd x
  go_enter Try.func173, Try.ntmps173
  go_wp2_with (first | (go_at_call 178; refine (fpart_any _ _).mono ?_; rintro e w' ⟨rfl, rfl⟩) | (go_at_call 174; refine (sin_any _ _).mono ?_; rintro e w' ⟨rfl, rfl⟩))
  go_ret
  exact ⟨rfl, rfl⟩

theorem rcos_any (x : Int) (w : World) :
    Calls Try.prog 176 #[.int .i64 x] w fun e w' => e = .returned (.int .i64 (cosS x)) ∧ w = w' := by
  have hh := heldS_bd x
  have ht := tmod_bd (heldS x) 65536 (by omega)
  have HC := Lib.hid (cosS_ref x)
  go_enter Try.func176, Try.ntmps176
  go_wp2_with (first | (go_at_call 95; refine (held_any _ _).mono ?_; rintro e w' ⟨rfl, rfl⟩) | (go_at_call 177; refine (rsin_any _ _).mono ?_; rintro e w' ⟨rfl, rfl⟩))
  go_ret
  exact ⟨by rw [← HC.out]; rfl, rfl⟩




end Go.Proofs.Ytaikocplcblnkab
