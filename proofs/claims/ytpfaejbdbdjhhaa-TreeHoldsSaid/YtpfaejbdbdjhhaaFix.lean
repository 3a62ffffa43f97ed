/- What the functions of layer 1 compute, by the program and by the reference: one function of plain numbers each. -/
import Derived.Test.YtpfaejbdbdjhhaaProg
import Derived.Test.YtpfaejbdbdjhhaaNum
set_option linter.unusedVariables false
namespace Go.Proofs.Ytpfaejbdbdjhhaa
open Go.RowKit

theorem clamp_any (n : Int) (w : World) :
    Calls Try.prog 54 #[.int .i64 n] w fun e w' => e = .returned (.int .i64 (heldS n)) ∧ w = w' := by
  rcases (by omega : 2147483648 < n ∨ n < -2147483648 ∨ (-2147483648 ≤ n ∧ n ≤ 2147483648)) with h | h | ⟨h, h'⟩
  · skip
    go_enter Try.func54, Try.ntmps54
    go_wp2_with (fail)
    go_ret
    exact ⟨by rw [heldS_hi h]; rfl, rfl⟩
  · skip
    go_enter Try.func54, Try.ntmps54
    go_wp2_with (fail)
    go_ret
    exact ⟨by rw [heldS_lo h]; rfl, rfl⟩
  · skip
    go_enter Try.func54, Try.ntmps54
    go_wp2_with (fail)
    go_ret
    exact ⟨by rw [heldS_id h h']; rfl, rfl⟩

theorem held_any (n : Int) (w : World) :
    Calls Try.prog 75 #[.int .i64 n] w fun e w' => e = .returned (.int .i64 (heldS n)) ∧ w = w' := by
  rcases (by omega : 2147483648 < n ∨ n < -2147483648 ∨ (-2147483648 ≤ n ∧ n ≤ 2147483648)) with h | h | ⟨h, h'⟩
  · skip
    go_enter Try.func75, Try.ntmps75
    go_wp2_with (fail)
    go_ret
    exact ⟨by rw [heldS_hi h]; rfl, rfl⟩
  · skip
    go_enter Try.func75, Try.ntmps75
    go_wp2_with (fail)
    go_ret
    exact ⟨by rw [heldS_lo h]; rfl, rfl⟩
  · skip
    go_enter Try.func75, Try.ntmps75
    go_wp2_with (fail)
    go_ret
    exact ⟨by rw [heldS_id h h']; rfl, rfl⟩

theorem in_any (a : Int) (w : World) :
    Calls Try.prog 53 #[.int .i64 a] w fun e w' => e = .returned (.int .i64 (heldS a)) ∧ w = w' := by
  go_enter Try.func53, Try.ntmps53
  go_wp2_with (go_at_call 54; refine (clamp_any _ _).mono ?_; rintro e w' ⟨rfl, rfl⟩)
  go_ret
  exact ⟨rfl, rfl⟩

theorem fadd_any (a b : Int) (w : World) :
    Calls Try.prog 76 #[.int .i64 a, .int .i64 b] w fun e w' => e = .returned (.int .i64 (addS a b)) ∧ w = w' := by
  have ha := heldS_bd a
  have hb := heldS_bd b
  go_enter Try.func76, Try.ntmps76
  go_wp2_with (first | (go_at_call 53; refine (in_any _ _).mono ?_; rintro e w' ⟨rfl, rfl⟩) | (go_at_call 54; refine (clamp_any _ _).mono ?_; rintro e w' ⟨rfl, rfl⟩))
  go_ret
  exact ⟨rfl, rfl⟩

theorem fsub_any (a b : Int) (w : World) :
    Calls Try.prog 61 #[.int .i64 a, .int .i64 b] w fun e w' => e = .returned (.int .i64 (subS a b)) ∧ w = w' := by
  have ha := heldS_bd a
  have hb := heldS_bd b
  go_enter Try.func61, Try.ntmps61
  go_wp2_with (first | (go_at_call 53; refine (in_any _ _).mono ?_; rintro e w' ⟨rfl, rfl⟩) | (go_at_call 54; refine (clamp_any _ _).mono ?_; rintro e w' ⟨rfl, rfl⟩))
  go_ret
  exact ⟨rfl, rfl⟩

theorem radd_any (a b : Int) (w : World) :
    Calls Try.prog 71 #[.int .i64 a, .int .i64 b] w fun e w' => e = .returned (.int .i64 (addS a b)) ∧ w = w' := by
  have ha := heldS_bd a
  have hb := heldS_bd b
  go_enter Try.func71, Try.ntmps71
  go_wp2_with (go_at_call 75; refine (held_any _ _).mono ?_; rintro e w' ⟨rfl, rfl⟩)
  go_ret
  exact ⟨rfl, rfl⟩

theorem rsub_any (a b : Int) (w : World) :
    Calls Try.prog 66 #[.int .i64 a, .int .i64 b] w fun e w' => e = .returned (.int .i64 (subS a b)) ∧ w = w' := by
  have ha := heldS_bd a
  have hb := heldS_bd b
  go_enter Try.func66, Try.ntmps66
  go_wp2_with (go_at_call 75; refine (held_any _ _).mono ?_; rintro e w' ⟨rfl, rfl⟩)
  go_ret
  exact ⟨rfl, rfl⟩


theorem fabs_any (a : Int) (w : World) :
    Calls Try.prog 57 #[.int .i64 a] w fun e w' => e = .returned (.int .i64 (absS a)) ∧ w = w' := by
  have ha := heldS_bd a
  rcases (by omega : heldS a < 0 ∨ 0 ≤ heldS a) with h | h
  · skip
    go_enter Try.func57, Try.ntmps57
    go_wp2_with (first | (go_at_call 53; refine (in_any _ _).mono ?_; rintro e w' ⟨rfl, rfl⟩) | (go_at_call 54; refine (clamp_any _ _).mono ?_; rintro e w' ⟨rfl, rfl⟩))
    go_ret
    exact ⟨by rw [← abs_neg h]; rfl, rfl⟩
  · skip
    go_enter Try.func57, Try.ntmps57
    go_wp2_with (first | (go_at_call 53; refine (in_any _ _).mono ?_; rintro e w' ⟨rfl, rfl⟩) | (go_at_call 54; refine (clamp_any _ _).mono ?_; rintro e w' ⟨rfl, rfl⟩))
    go_ret
    exact ⟨by rw [← abs_pos h]; rfl, rfl⟩

theorem fmul_any (a b : Int) (w : World) :
    Calls Try.prog 59 #[.int .i64 a, .int .i64 b] w fun e w' => e = .returned (.int .i64 (mulS a b)) ∧ w = w' := by
  have hm := wrap_held_mul a b
  go_enter Try.func59, Try.ntmps59
  go_wp2_with (first | (go_at_call 53; refine (in_any _ _).mono ?_; rintro e w' ⟨rfl, rfl⟩) | (go_at_call 54; refine (clamp_any _ _).mono ?_; rintro e w' ⟨rfl, rfl⟩))
  go_ret
  exact ⟨rfl, rfl⟩

theorem funit_any (a : Int) (w : World) :
    Calls Try.prog 55 #[.int .i64 a] w fun e w' => e = .returned (.int .i64 (unS a)) ∧ w = w' := by
  rcases (by omega : a ≤ 0 ∨ 65536 < a ∨ (0 < a ∧ a ≤ 65536)) with h | h | ⟨h, h'⟩
  · skip
    go_enter Try.func55, Try.ntmps55
    go_wp2_with (fail)
    go_ret
    exact ⟨by rw [unS_neg h]; rfl, rfl⟩
  · skip
    go_enter Try.func55, Try.ntmps55
    go_wp2_with (fail)
    go_ret
    exact ⟨by unfold unS; rw [if_neg (by omega), if_pos h]; rfl, rfl⟩
  · skip
    go_enter Try.func55, Try.ntmps55
    go_wp2_with (fail)
    go_ret
    exact ⟨by unfold unS; rw [if_neg (by omega), if_neg (by omega)]; rfl, rfl⟩

theorem runit_any (a : Int) (w : World) :
    Calls Try.prog 77 #[.int .i64 a] w fun e w' => e = .returned (.int .i64 (unS a)) ∧ w = w' := by
  rcases (by omega : a < 0 ∨ 65536 < a ∨ (0 ≤ a ∧ a ≤ 65536)) with h | h | ⟨h, h'⟩
  · skip
    go_enter Try.func77, Try.ntmps77
    go_wp2_with (fail)
    go_ret
    exact ⟨by unfold unS; rw [if_pos h]; rfl, rfl⟩
  · skip
    go_enter Try.func77, Try.ntmps77
    go_wp2_with (fail)
    go_ret
    exact ⟨by unfold unS; rw [if_neg (by omega), if_pos h]; rfl, rfl⟩
  · skip
    go_enter Try.func77, Try.ntmps77
    go_wp2_with (fail)
    go_ret
    exact ⟨by unfold unS; rw [if_neg (by omega), if_neg (by omega)]; rfl, rfl⟩


theorem rdown_any (n d : Int) (w : World) (hd : 0 < d) (hd1 : d ≤ 4611686018427387904) (n0 : -4611686018427387904 ≤ n) (n1 : n ≤ 4611686018427387904) :
    Calls Try.prog 68 #[.int .i64 n, .int .i64 d] w fun e w' => e = .returned (.int .i64 (n / d)) ∧ w = w' := by
  have hc := down_core n d hd
  have ht := tmod_bd n d hd
  have hz : (d == 0) = false := by simp; omega
  rcases (by omega : n.tmod d < 0 ∨ ¬ n.tmod d < 0) with h | h
  · skip
    rw [if_pos h] at hc
    have HC := Lib.hid hc
    clear hc
    go_enter Try.func68, Try.ntmps68
    go_wp2_with (fail)
    go_ret
    exact ⟨by rw [← HC.out]; rfl, rfl⟩
  · skip
    rw [if_neg h] at hc
    have HC := Lib.hid hc
    clear hc
    go_enter Try.func68, Try.ntmps68
    go_wp2_with (fail)
    go_ret
    exact ⟨by rw [← HC.out]; rfl, rfl⟩

theorem ffloor_any (n d : Int) (w : World) (hd : d ≠ 0) (n0 : -4611686018427387904 ≤ n) (n1 : n ≤ 4611686018427387904) :
    Calls Try.prog 72 #[.int .i64 n, .int .i64 d] w fun e w' => e = .returned (.int .i64 (Int.fdiv n d)) ∧ w = w' := by
  have hc := floor_core n d hd
  have hz : (d == 0) = false := by simpa using hd
  have hq := tdiv_wrap n d n0 n1
  have ht := tdiv_bd n d n0 n1
  rcases (by omega : n.tmod d = 0 ∨ (¬ n.tmod d = 0 ∧ n < 0 ∧ d < 0) ∨ (¬ n.tmod d = 0 ∧ n < 0 ∧ 0 < d) ∨ (¬ n.tmod d = 0 ∧ 0 ≤ n ∧ d < 0) ∨ (¬ n.tmod d = 0 ∧ 0 ≤ n ∧ 0 < d)) with h | ⟨h, h1, h2⟩ | ⟨h, h1, h2⟩ | ⟨h, h1, h2⟩ | ⟨h, h1, h2⟩
  · skip
    rw [if_neg (by omega)] at hc
    have hb : (n.tmod d != 0) = false := by simpa using h
    have HC := Lib.hid hc
    clear hc h
    go_enter Try.func72, Try.ntmps72
    go_wp2_with (fail)
    go_ret
    exact ⟨by rw [← HC.out]; rfl, rfl⟩
  · skip
    rw [if_neg (by omega)] at hc
    have kn : decide (n < 0) = true := by simpa using h1
    have kd : decide (d < 0) = true := by simp; omega
    have hb : (n.tmod d != 0) = true := by simpa using h
    have HC := Lib.hid hc
    clear hc h
    go_enter Try.func72, Try.ntmps72
    go_wp2_with (fail)
    go_ret
    exact ⟨by rw [← HC.out]; rfl, rfl⟩
  · skip
    rw [if_pos (by omega)] at hc
    have kn : decide (n < 0) = true := by simpa using h1
    have kd : decide (d < 0) = false := by simp; omega
    have hb : (n.tmod d != 0) = true := by simpa using h
    have HC := Lib.hid hc
    clear hc h
    go_enter Try.func72, Try.ntmps72
    go_wp2_with (fail)
    go_ret
    exact ⟨by rw [← HC.out]; rfl, rfl⟩
  · skip
    rw [if_pos (by omega)] at hc
    have kn : decide (n < 0) = false := by simpa using h1
    have kd : decide (d < 0) = true := by simp; omega
    rw [Int.tmod_eq_emod_of_nonneg h1] at h
    have hb : (n % d != 0) = true := by simpa using h
    have HC := Lib.hid hc
    clear hc h
    go_enter Try.func72, Try.ntmps72
    go_wp2_with (fail)
    go_ret
    exact ⟨by rw [← HC.out]; rfl, rfl⟩
  · skip
    rw [if_neg (by omega)] at hc
    have kn : decide (n < 0) = false := by simpa using h1
    have kd : decide (d < 0) = false := by simp; omega
    rw [Int.tmod_eq_emod_of_nonneg h1] at h
    have hb : (n % d != 0) = true := by simpa using h
    rw [Int.tdiv_eq_ediv_of_nonneg h1] at hc hq ht
    have HC := Lib.hid hc
    clear hc h
    go_enter Try.func72, Try.ntmps72
    go_wp2_with (fail)
    go_ret
    exact ⟨by rw [← HC.out]; rfl, rfl⟩

theorem rmul_any (a b : Int) (w : World) :
    Calls Try.prog 69 #[.int .i64 a, .int .i64 b] w fun e w' => e = .returned (.int .i64 (mulS a b)) ∧ w = w' := by
  have hm := wrap_held_mul a b
  have hb := held_mul_bd a b
  go_enter Try.func69, Try.ntmps69
  go_wp2_with (first | (go_at_call 75; refine (held_any _ _).mono ?_; rintro e w' ⟨rfl, rfl⟩) | (go_at_call 68; refine (rdown_any _ _ _ (by omega) (by omega) (by omega) (by omega)).mono ?_; rintro e w' ⟨rfl, rfl⟩))
  go_ret
  exact ⟨rfl, rfl⟩

theorem rlerp_any (a b t : Int) (w : World) :
    Calls Try.prog 74 #[.int .i64 a, .int .i64 b, .int .i64 t] w fun e w' => e = .returned (.int .i64 (lerpS a b t)) ∧ w = w' := by
  have ha := heldS_bd a
  have hb := heldS_bd b
  have hl := lerp_bd a b t
  have hw := wrap_of (n := (heldS b - heldS a) * unS t) (by omega) (by omega)
  go_enter Try.func74, Try.ntmps74
  go_wp2_with (first | (go_at_call 75; refine (held_any _ _).mono ?_; rintro e w' ⟨rfl, rfl⟩) | (go_at_call 77; refine (runit_any _ _).mono ?_; rintro e w' ⟨rfl, rfl⟩) | (go_at_call 68; refine (rdown_any _ _ _ (by omega) (by omega) (by omega) (by omega)).mono ?_; rintro e w' ⟨rfl, rfl⟩))
  go_ret
  exact ⟨rfl, rfl⟩

theorem flerp_any (a b t : Int) (w : World) :
    Calls Try.prog 34 #[.int .i64 a, .int .i64 b, .int .i64 t] w fun e w' => e = .returned (.int .i64 (lerpS a b t)) ∧ w = w' := by
  have ha := heldS_bd a
  have hb := heldS_bd b
  have hl := lerp_bd a b t
  have hw := wrap_of (n := (heldS b - heldS a) * unS t) (by omega) (by omega)
  go_enter Try.func34, Try.ntmps34
  go_wp2_with (first | (go_at_call 53; refine (in_any _ _).mono ?_; rintro e w' ⟨rfl, rfl⟩) | (go_at_call 55; refine (funit_any _ _).mono ?_; rintro e w' ⟨rfl, rfl⟩) | (go_at_call 54; refine (clamp_any _ _).mono ?_; rintro e w' ⟨rfl, rfl⟩))
  go_ret
  exact ⟨rfl, rfl⟩



theorem fdiv_any (a b : Int) (w : World) :
    Calls Try.prog 60 #[.int .i64 a, .int .i64 b] w fun e w' => e = .returned (.int .i64 (divS a b)) ∧ w = w' := by
  have ha := heldS_bd a
  have hb := heldS_bd b
  rcases (by omega : (heldS b = 0 ∧ 0 < heldS a) ∨ (heldS b = 0 ∧ heldS a < 0) ∨ (heldS b = 0 ∧ 0 ≤ heldS a ∧ heldS a ≤ 0) ∨ heldS b ≠ 0) with ⟨h0, h1⟩ | ⟨h0, h1⟩ | ⟨h0, h1, h2⟩ | h0
  · skip
    have HZ := Lib.hid h0
    have hz : (heldS b != 0) = false := by simp [h0]
    clear h0
    go_enter Try.func60, Try.ntmps60
    go_wp2_with (first | (go_at_call 53; refine (in_any _ _).mono ?_; rintro e w' ⟨rfl, rfl⟩) | (go_at_call 72; refine (ffloor_any _ _ _ (by omega) (by omega) (by omega)).mono ?_; rintro e w' ⟨rfl, rfl⟩) | (go_at_call 54; refine (clamp_any _ _).mono ?_; rintro e w' ⟨rfl, rfl⟩))
    go_ret
    exact ⟨by rw [divS_zero_pos HZ.out h1]; rfl, rfl⟩
  · skip
    have HZ := Lib.hid h0
    have hz : (heldS b != 0) = false := by simp [h0]
    clear h0
    go_enter Try.func60, Try.ntmps60
    go_wp2_with (first | (go_at_call 53; refine (in_any _ _).mono ?_; rintro e w' ⟨rfl, rfl⟩) | (go_at_call 72; refine (ffloor_any _ _ _ (by omega) (by omega) (by omega)).mono ?_; rintro e w' ⟨rfl, rfl⟩) | (go_at_call 54; refine (clamp_any _ _).mono ?_; rintro e w' ⟨rfl, rfl⟩))
    go_ret
    exact ⟨by rw [divS_zero_neg HZ.out h1]; rfl, rfl⟩
  · skip
    have HZ := Lib.hid h0
    have hz : (heldS b != 0) = false := by simp [h0]
    clear h0
    go_enter Try.func60, Try.ntmps60
    go_wp2_with (first | (go_at_call 53; refine (in_any _ _).mono ?_; rintro e w' ⟨rfl, rfl⟩) | (go_at_call 72; refine (ffloor_any _ _ _ (by omega) (by omega) (by omega)).mono ?_; rintro e w' ⟨rfl, rfl⟩) | (go_at_call 54; refine (clamp_any _ _).mono ?_; rintro e w' ⟨rfl, rfl⟩))
    go_ret
    exact ⟨by rw [divS_zero_zero HZ.out (by omega)]; rfl, rfl⟩
  · skip
    have HZ := Lib.hid h0
    have hz : (heldS b != 0) = true := by simpa using h0
    go_enter Try.func60, Try.ntmps60
    go_wp2_with (first | (go_at_call 53; refine (in_any _ _).mono ?_; rintro e w' ⟨rfl, rfl⟩) | (go_at_call 72; refine (ffloor_any _ _ _ (by omega) (by omega) (by omega)).mono ?_; rintro e w' ⟨rfl, rfl⟩) | (go_at_call 54; refine (clamp_any _ _).mono ?_; rintro e w' ⟨rfl, rfl⟩))
    go_ret
    exact ⟨by rw [divS_of HZ.out]; rfl, rfl⟩

theorem rdiv_any (a b : Int) (w : World) :
    Calls Try.prog 70 #[.int .i64 a, .int .i64 b] w fun e w' => e = .returned (.int .i64 (divS a b)) ∧ w = w' := by
  have ha := heldS_bd a
  have hb := heldS_bd b
  rcases (by omega : (heldS b = 0 ∧ 0 < heldS a) ∨ (heldS b = 0 ∧ heldS a < 0) ∨ (heldS b = 0 ∧ 0 ≤ heldS a ∧ heldS a ≤ 0) ∨ heldS b < 0 ∨ 0 < heldS b) with ⟨h0, h1⟩ | ⟨h0, h1⟩ | ⟨h0, h1, h2⟩ | h0 | h0
  · skip
    have HZ := Lib.hid h0
    have hz : (heldS b == 0) = true := by simp [h0]
    clear h0
    go_enter Try.func70, Try.ntmps70
    go_wp2_with (first | (go_at_call 75; refine (held_any _ _).mono ?_; rintro e w' ⟨rfl, rfl⟩) | (go_at_call 68; refine (rdown_any _ _ _ (by omega) (by omega) (by omega) (by omega)).mono ?_; rintro e w' ⟨rfl, rfl⟩))
    go_ret
    exact ⟨by rw [divS_zero_pos HZ.out h1]; rfl, rfl⟩
  · skip
    have HZ := Lib.hid h0
    have hz : (heldS b == 0) = true := by simp [h0]
    clear h0
    go_enter Try.func70, Try.ntmps70
    go_wp2_with (first | (go_at_call 75; refine (held_any _ _).mono ?_; rintro e w' ⟨rfl, rfl⟩) | (go_at_call 68; refine (rdown_any _ _ _ (by omega) (by omega) (by omega) (by omega)).mono ?_; rintro e w' ⟨rfl, rfl⟩))
    go_ret
    exact ⟨by rw [divS_zero_neg HZ.out h1]; rfl, rfl⟩
  · skip
    have HZ := Lib.hid h0
    have hz : (heldS b == 0) = true := by simp [h0]
    clear h0
    go_enter Try.func70, Try.ntmps70
    go_wp2_with (first | (go_at_call 75; refine (held_any _ _).mono ?_; rintro e w' ⟨rfl, rfl⟩) | (go_at_call 68; refine (rdown_any _ _ _ (by omega) (by omega) (by omega) (by omega)).mono ?_; rintro e w' ⟨rfl, rfl⟩))
    go_ret
    exact ⟨by rw [divS_zero_zero HZ.out (by omega)]; rfl, rfl⟩
  · skip
    have hz : (heldS b == 0) = false := by simp; omega
    have HF := Lib.hid (fdiv_neg (n := heldS a * 65536) h0)
    go_enter Try.func70, Try.ntmps70
    go_wp2_with (first | (go_at_call 75; refine (held_any _ _).mono ?_; rintro e w' ⟨rfl, rfl⟩) | (go_at_call 68; refine (rdown_any _ _ _ (by omega) (by omega) (by omega) (by omega)).mono ?_; rintro e w' ⟨rfl, rfl⟩))
    go_ret
    exact ⟨by rw [divS_of (by omega), ← HF.out, ← Int.neg_mul, Int.ediv_neg]; rfl, rfl⟩
  · skip
    have hz : (heldS b == 0) = false := by simp; omega
    have HF := Lib.hid (fdiv_pos (n := heldS a * 65536) h0)
    go_enter Try.func70, Try.ntmps70
    go_wp2_with (first | (go_at_call 75; refine (held_any _ _).mono ?_; rintro e w' ⟨rfl, rfl⟩) | (go_at_call 68; refine (rdown_any _ _ _ (by omega) (by omega) (by omega) (by omega)).mono ?_; rintro e w' ⟨rfl, rfl⟩))
    go_ret
    exact ⟨by rw [divS_of (by omega), ← HF.out]; rfl, rfl⟩

def sumS (n : Nat) (z : Nat → Int) : Int := loopN (fun i s => addS s (z i)) 0 n
theorem fsum_any (v : Value) (n : Nat) (z : Nat → Int) (w : World) (hv : Nums .i64 w v n z) :
    Calls Try.prog 73 #[v] w fun e w' => e = .returned (.int .i64 (sumS n z)) ∧ w = w' := by
  obtain ⟨a, cap, rfl, hlen, _, _, _, hc0⟩ := hv
  have HC := Lib.hid hc0
  clear hc0
  go_enter Try.func73, Try.ntmps73
  go_wp2
  go_loop [3, 8] (fun h i => ∃ k : Nat, k ≤ n ∧ i = .int .i64 k ∧ h = .int .i64 (loopN (fun i s => addS s (z i)) 0 k)) (fun _ i => n - (intOf i).toNat)
  case atStart => exact ⟨0, Nat.zero_le _, rfl, rfl⟩
  case round =>
    obtain ⟨k, hk, rfl, rfl⟩ := hrel
    by_cases hlt : k < n
    · obtain ⟨b, off, rfl, hcell, _⟩ := HC.out k hlt
      go_wp2_with (go_at_call 76; refine (fadd_any _ _ _).mono ?_; rintro e w' ⟨rfl, rfl⟩)
      go_round
      case rel => exact ⟨k + 1, by omega, by go_num, rfl⟩
      case measure => simp [intOf]; omega
    · obtain rfl : k = n := by omega
      go_wp2
      go_ret
      exact ⟨rfl, rfl⟩



end Go.Proofs.Ytpfaejbdbdjhhaa
