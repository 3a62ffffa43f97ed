/- What the functions of layer 1 compute, by the program and by the reference: one function of plain numbers each. -/
import Derived.Test.YtonlllijdbjkaaaProg
import Derived.Test.YtonlllijdbjkaaaNum
set_option linter.unusedVariables false
namespace Go.Proofs.Ytonlllijdbjkaaa
open Go.RowKit

theorem clamp_any (n : Int) (w : World) :
    Calls Try.prog 36 #[.int .i64 n] w fun e w' => e = .returned (.int .i64 (heldS n)) ∧ w = w' := by
  rcases (by omega : 2147483648 < n ∨ n < -2147483648 ∨ (-2147483648 ≤ n ∧ n ≤ 2147483648)) with h | h | ⟨h, h'⟩
  · skip
    go_enter Try.func36, Try.ntmps36
    go_wp2_with (fail)
    go_ret
    exact ⟨by rw [heldS_hi h]; rfl, rfl⟩
  · skip
    go_enter Try.func36, Try.ntmps36
    go_wp2_with (fail)
    go_ret
    exact ⟨by rw [heldS_lo h]; rfl, rfl⟩
  · skip
    go_enter Try.func36, Try.ntmps36
    go_wp2_with (fail)
    go_ret
    exact ⟨by rw [heldS_id h h']; rfl, rfl⟩

theorem held_any (n : Int) (w : World) :
    Calls Try.prog 38 #[.int .i64 n] w fun e w' => e = .returned (.int .i64 (heldS n)) ∧ w = w' := by
  rcases (by omega : 2147483648 < n ∨ n < -2147483648 ∨ (-2147483648 ≤ n ∧ n ≤ 2147483648)) with h | h | ⟨h, h'⟩
  · skip
    go_enter Try.func38, Try.ntmps38
    go_wp2_with (fail)
    go_ret
    exact ⟨by rw [heldS_hi h]; rfl, rfl⟩
  · skip
    go_enter Try.func38, Try.ntmps38
    go_wp2_with (fail)
    go_ret
    exact ⟨by rw [heldS_lo h]; rfl, rfl⟩
  · skip
    go_enter Try.func38, Try.ntmps38
    go_wp2_with (fail)
    go_ret
    exact ⟨by rw [heldS_id h h']; rfl, rfl⟩

theorem in_any (a : Int) (w : World) :
    Calls Try.prog 61 #[.int .i64 a] w fun e w' => e = .returned (.int .i64 (heldS a)) ∧ w = w' := by
  go_enter Try.func61, Try.ntmps61
  go_wp2_with (go_at_call 36; refine (clamp_any _ _).mono ?_; rintro e w' ⟨rfl, rfl⟩)
  go_ret
  exact ⟨rfl, rfl⟩

theorem fadd_any (a b : Int) (w : World) :
    Calls Try.prog 85 #[.int .i64 a, .int .i64 b] w fun e w' => e = .returned (.int .i64 (addS a b)) ∧ w = w' := by
  have ha := heldS_bd a
  have hb := heldS_bd b
  go_enter Try.func85, Try.ntmps85
  go_wp2_with (first | (go_at_call 61; refine (in_any _ _).mono ?_; rintro e w' ⟨rfl, rfl⟩) | (go_at_call 36; refine (clamp_any _ _).mono ?_; rintro e w' ⟨rfl, rfl⟩))
  go_ret
  exact ⟨rfl, rfl⟩

theorem fsub_any (a b : Int) (w : World) :
    Calls Try.prog 86 #[.int .i64 a, .int .i64 b] w fun e w' => e = .returned (.int .i64 (subS a b)) ∧ w = w' := by
  have ha := heldS_bd a
  have hb := heldS_bd b
  go_enter Try.func86, Try.ntmps86
  go_wp2_with (first | (go_at_call 61; refine (in_any _ _).mono ?_; rintro e w' ⟨rfl, rfl⟩) | (go_at_call 36; refine (clamp_any _ _).mono ?_; rintro e w' ⟨rfl, rfl⟩))
  go_ret
  exact ⟨rfl, rfl⟩

theorem radd_any (a b : Int) (w : World) :
    Calls Try.prog 93 #[.int .i64 a, .int .i64 b] w fun e w' => e = .returned (.int .i64 (addS a b)) ∧ w = w' := by
  have ha := heldS_bd a
  have hb := heldS_bd b
  go_enter Try.func93, Try.ntmps93
  go_wp2_with (go_at_call 38; refine (held_any _ _).mono ?_; rintro e w' ⟨rfl, rfl⟩)
  go_ret
  exact ⟨rfl, rfl⟩

theorem rsub_any (a b : Int) (w : World) :
    Calls Try.prog 94 #[.int .i64 a, .int .i64 b] w fun e w' => e = .returned (.int .i64 (subS a b)) ∧ w = w' := by
  have ha := heldS_bd a
  have hb := heldS_bd b
  go_enter Try.func94, Try.ntmps94
  go_wp2_with (go_at_call 38; refine (held_any _ _).mono ?_; rintro e w' ⟨rfl, rfl⟩)
  go_ret
  exact ⟨rfl, rfl⟩



theorem fmul_any (a b : Int) (w : World) :
    Calls Try.prog 82 #[.int .i64 a, .int .i64 b] w fun e w' => e = .returned (.int .i64 (mulS a b)) ∧ w = w' := by
  have hm := wrap_held_mul a b
  go_enter Try.func82, Try.ntmps82
  go_wp2_with (first | (go_at_call 61; refine (in_any _ _).mono ?_; rintro e w' ⟨rfl, rfl⟩) | (go_at_call 36; refine (clamp_any _ _).mono ?_; rintro e w' ⟨rfl, rfl⟩))
  go_ret
  exact ⟨rfl, rfl⟩

theorem funit_any (a : Int) (w : World) :
    Calls Try.prog 60 #[.int .i64 a] w fun e w' => e = .returned (.int .i64 (unS a)) ∧ w = w' := by
  rcases (by omega : a ≤ 0 ∨ 65536 < a ∨ (0 < a ∧ a ≤ 65536)) with h | h | ⟨h, h'⟩
  · skip
    go_enter Try.func60, Try.ntmps60
    go_wp2_with (fail)
    go_ret
    exact ⟨by rw [unS_neg h]; rfl, rfl⟩
  · skip
    go_enter Try.func60, Try.ntmps60
    go_wp2_with (fail)
    go_ret
    exact ⟨by unfold unS; rw [if_neg (by omega), if_pos h]; rfl, rfl⟩
  · skip
    go_enter Try.func60, Try.ntmps60
    go_wp2_with (fail)
    go_ret
    exact ⟨by unfold unS; rw [if_neg (by omega), if_neg (by omega)]; rfl, rfl⟩

theorem runit_any (a : Int) (w : World) :
    Calls Try.prog 63 #[.int .i64 a] w fun e w' => e = .returned (.int .i64 (unS a)) ∧ w = w' := by
  rcases (by omega : a < 0 ∨ 65536 < a ∨ (0 ≤ a ∧ a ≤ 65536)) with h | h | ⟨h, h'⟩
  · skip
    go_enter Try.func63, Try.ntmps63
    go_wp2_with (fail)
    go_ret
    exact ⟨by unfold unS; rw [if_pos h]; rfl, rfl⟩
  · skip
    go_enter Try.func63, Try.ntmps63
    go_wp2_with (fail)
    go_ret
    exact ⟨by unfold unS; rw [if_neg (by omega), if_pos h]; rfl, rfl⟩
  · skip
    go_enter Try.func63, Try.ntmps63
    go_wp2_with (fail)
    go_ret
    exact ⟨by unfold unS; rw [if_neg (by omega), if_neg (by omega)]; rfl, rfl⟩


theorem rdown_any (n d : Int) (w : World) (hd : 0 < d) (hd1 : d ≤ 4611686018427387904) (n0 : -4611686018427387904 ≤ n) (n1 : n ≤ 4611686018427387904) :
    Calls Try.prog 39 #[.int .i64 n, .int .i64 d] w fun e w' => e = .returned (.int .i64 (n / d)) ∧ w = w' := by
  have hc := down_core n d hd
  have ht := tmod_bd n d hd
  have hz : (d == 0) = false := by simp; omega
  rcases (by omega : n.tmod d < 0 ∨ ¬ n.tmod d < 0) with h | h
  · skip
    rw [if_pos h] at hc
    have HC := Lib.hid hc
    clear hc
    go_enter Try.func39, Try.ntmps39
    go_wp2_with (fail)
    go_ret
    exact ⟨by rw [← HC.out]; rfl, rfl⟩
  · skip
    rw [if_neg h] at hc
    have HC := Lib.hid hc
    clear hc
    go_enter Try.func39, Try.ntmps39
    go_wp2_with (fail)
    go_ret
    exact ⟨by rw [← HC.out]; rfl, rfl⟩

theorem ffloor_any (n d : Int) (w : World) (hd : d ≠ 0) (n0 : -4611686018427387904 ≤ n) (n1 : n ≤ 4611686018427387904) :
    Calls Try.prog 62 #[.int .i64 n, .int .i64 d] w fun e w' => e = .returned (.int .i64 (Int.fdiv n d)) ∧ w = w' := by
  have hc := floor_core n d hd
  have hz : (d == 0) = false := by simpa using hd
  have hq := tdiv_wrap n d n0 n1
  have ht := tdiv_bd n d n0 n1
  rcases (by omega : n.tmod d = 0 ∨ (¬ n.tmod d = 0 ∧ n < 0 ∧ d < 0) ∨ (¬ n.tmod d = 0 ∧ n < 0 ∧ 0 < d) ∨ (¬ n.tmod d = 0 ∧ 0 ≤ n ∧ d < 0) ∨ (¬ n.tmod d = 0 ∧ 0 ≤ n ∧ 0 < d)) with h | ⟨h, h1, h2⟩ | ⟨h, h1, h2⟩ | ⟨h, h1, h2⟩ | ⟨h, h1, h2⟩
  · skip
    rw [if_neg (by omega)] at hc
    have hb : (n.tmod d != 0) = false := by simpa using h
    have HC := Lib.hid hc
    clear hc h
    go_enter Try.func62, Try.ntmps62
    go_wp2_with (fail)
    go_ret
    exact ⟨by rw [← HC.out]; rfl, rfl⟩
  · skip
    rw [if_neg (by omega)] at hc
    have kn : decide (n < 0) = true := by simpa using h1
    have kd : decide (d < 0) = true := by simp; omega
    have hb : (n.tmod d != 0) = true := by simpa using h
    have HC := Lib.hid hc
    clear hc h
    go_enter Try.func62, Try.ntmps62
    go_wp2_with (fail)
    go_ret
    exact ⟨by rw [← HC.out]; rfl, rfl⟩
  · skip
    rw [if_pos (by omega)] at hc
    have kn : decide (n < 0) = true := by simpa using h1
    have kd : decide (d < 0) = false := by simp; omega
    have hb : (n.tmod d != 0) = true := by simpa using h
    have HC := Lib.hid hc
    clear hc h
    go_enter Try.func62, Try.ntmps62
    go_wp2_with (fail)
    go_ret
    exact ⟨by rw [← HC.out]; rfl, rfl⟩
  · skip
    rw [if_pos (by omega)] at hc
    have kn : decide (n < 0) = false := by simpa using h1
    have kd : decide (d < 0) = true := by simp; omega
    rw [Int.tmod_eq_emod_of_nonneg h1] at h
    have hb : (n % d != 0) = true := by simpa using h
    have HC := Lib.hid hc
    clear hc h
    go_enter Try.func62, Try.ntmps62
    go_wp2_with (fail)
    go_ret
    exact ⟨by rw [← HC.out]; rfl, rfl⟩
  · skip
    rw [if_neg (by omega)] at hc
    have kn : decide (n < 0) = false := by simpa using h1
    have kd : decide (d < 0) = false := by simp; omega
    rw [Int.tmod_eq_emod_of_nonneg h1] at h
    have hb : (n % d != 0) = true := by simpa using h
    rw [Int.tdiv_eq_ediv_of_nonneg h1] at hc hq ht
    have HC := Lib.hid hc
    clear hc h
    go_enter Try.func62, Try.ntmps62
    go_wp2_with (fail)
    go_ret
    exact ⟨by rw [← HC.out]; rfl, rfl⟩

theorem rmul_any (a b : Int) (w : World) :
    Calls Try.prog 87 #[.int .i64 a, .int .i64 b] w fun e w' => e = .returned (.int .i64 (mulS a b)) ∧ w = w' := by
  have hm := wrap_held_mul a b
  have hb := held_mul_bd a b
  go_enter Try.func87, Try.ntmps87
  go_wp2_with (first | (go_at_call 38; refine (held_any _ _).mono ?_; rintro e w' ⟨rfl, rfl⟩) | (go_at_call 39; refine (rdown_any _ _ _ (by omega) (by omega) (by omega) (by omega)).mono ?_; rintro e w' ⟨rfl, rfl⟩))
  go_ret
  exact ⟨rfl, rfl⟩

theorem rlerp_any (a b t : Int) (w : World) :
    Calls Try.prog 92 #[.int .i64 a, .int .i64 b, .int .i64 t] w fun e w' => e = .returned (.int .i64 (lerpS a b t)) ∧ w = w' := by
  have ha := heldS_bd a
  have hb := heldS_bd b
  have hl := lerp_bd a b t
  have hw := wrap_of (n := (heldS b - heldS a) * unS t) (by omega) (by omega)
  go_enter Try.func92, Try.ntmps92
  go_wp2_with (first | (go_at_call 38; refine (held_any _ _).mono ?_; rintro e w' ⟨rfl, rfl⟩) | (go_at_call 63; refine (runit_any _ _).mono ?_; rintro e w' ⟨rfl, rfl⟩) | (go_at_call 39; refine (rdown_any _ _ _ (by omega) (by omega) (by omega) (by omega)).mono ?_; rintro e w' ⟨rfl, rfl⟩))
  go_ret
  exact ⟨rfl, rfl⟩

theorem flerp_any (a b t : Int) (w : World) :
    Calls Try.prog 84 #[.int .i64 a, .int .i64 b, .int .i64 t] w fun e w' => e = .returned (.int .i64 (lerpS a b t)) ∧ w = w' := by
  have ha := heldS_bd a
  have hb := heldS_bd b
  have hl := lerp_bd a b t
  have hw := wrap_of (n := (heldS b - heldS a) * unS t) (by omega) (by omega)
  go_enter Try.func84, Try.ntmps84
  go_wp2_with (first | (go_at_call 61; refine (in_any _ _).mono ?_; rintro e w' ⟨rfl, rfl⟩) | (go_at_call 60; refine (funit_any _ _).mono ?_; rintro e w' ⟨rfl, rfl⟩) | (go_at_call 36; refine (clamp_any _ _).mono ?_; rintro e w' ⟨rfl, rfl⟩))
  go_ret
  exact ⟨rfl, rfl⟩

theorem fof_any (n : Int) (w : World) :
    Calls Try.prog 44 #[.int .i64 n] w fun e w' => e = .returned (.int .i64 (ofS n)) ∧ w = w' := by
  rcases (by omega : 1048576 < n ∨ n < -1048576 ∨ n = -1048576 ∨ n = 1048576 ∨ (-1048576 < n ∧ n < 1048576)) with h | h | rfl | rfl | ⟨h, h'⟩
  · skip
    go_enter Try.func44, Try.ntmps44
    go_wp2_with (go_at_call 36; refine (clamp_any _ _).mono ?_; rintro e w' ⟨rfl, rfl⟩)
    go_ret
    exact ⟨by rw [← ofS_hi h]; rfl, rfl⟩
  · skip
    go_enter Try.func44, Try.ntmps44
    go_wp2_with (go_at_call 36; refine (clamp_any _ _).mono ?_; rintro e w' ⟨rfl, rfl⟩)
    go_ret
    exact ⟨by rw [← ofS_lo h]; rfl, rfl⟩
  · skip
    go_enter Try.func44, Try.ntmps44
    go_wp2_with (go_at_call 36; refine (clamp_any _ _).mono ?_; rintro e w' ⟨rfl, rfl⟩)
    go_ret
    exact ⟨rfl, rfl⟩
  · skip
    go_enter Try.func44, Try.ntmps44
    go_wp2_with (go_at_call 36; refine (clamp_any _ _).mono ?_; rintro e w' ⟨rfl, rfl⟩)
    go_ret
    exact ⟨rfl, rfl⟩
  · skip
    go_enter Try.func44, Try.ntmps44
    go_wp2_with (go_at_call 36; refine (clamp_any _ _).mono ?_; rintro e w' ⟨rfl, rfl⟩)
    go_ret
    exact ⟨by rw [← ofS_mid]; rfl, rfl⟩

theorem rof_any (n : Int) (w : World) :
    Calls Try.prog 47 #[.int .i64 n] w fun e w' => e = .returned (.int .i64 (ofS n)) ∧ w = w' := by
  rcases (by omega : 32768 < n ∨ n < -32768 ∨ (-32768 ≤ n ∧ n ≤ 32768)) with h | h | ⟨h, h'⟩
  · skip
    go_enter Try.func47, Try.ntmps47
    go_wp2_with (fail)
    go_ret
    exact ⟨by unfold ofS; rw [if_pos h]; rfl, rfl⟩
  · skip
    go_enter Try.func47, Try.ntmps47
    go_wp2_with (fail)
    go_ret
    exact ⟨by unfold ofS; rw [if_neg (by omega), if_pos h]; rfl, rfl⟩
  · skip
    go_enter Try.func47, Try.ntmps47
    go_wp2_with (fail)
    go_ret
    exact ⟨by unfold ofS; rw [if_neg (by omega), if_neg (by omega)]; rfl, rfl⟩

theorem fdiv_any (a b : Int) (w : World) :
    Calls Try.prog 43 #[.int .i64 a, .int .i64 b] w fun e w' => e = .returned (.int .i64 (divS a b)) ∧ w = w' := by
  have ha := heldS_bd a
  have hb := heldS_bd b
  rcases (by omega : (heldS b = 0 ∧ 0 < heldS a) ∨ (heldS b = 0 ∧ heldS a < 0) ∨ (heldS b = 0 ∧ 0 ≤ heldS a ∧ heldS a ≤ 0) ∨ heldS b ≠ 0) with ⟨h0, h1⟩ | ⟨h0, h1⟩ | ⟨h0, h1, h2⟩ | h0
  · skip
    have HZ := Lib.hid h0
    have hz : (heldS b != 0) = false := by simp [h0]
    clear h0
    go_enter Try.func43, Try.ntmps43
    go_wp2_with (first | (go_at_call 61; refine (in_any _ _).mono ?_; rintro e w' ⟨rfl, rfl⟩) | (go_at_call 62; refine (ffloor_any _ _ _ (by omega) (by omega) (by omega)).mono ?_; rintro e w' ⟨rfl, rfl⟩) | (go_at_call 36; refine (clamp_any _ _).mono ?_; rintro e w' ⟨rfl, rfl⟩))
    go_ret
    exact ⟨by rw [divS_zero_pos HZ.out h1]; rfl, rfl⟩
  · skip
    have HZ := Lib.hid h0
    have hz : (heldS b != 0) = false := by simp [h0]
    clear h0
    go_enter Try.func43, Try.ntmps43
    go_wp2_with (first | (go_at_call 61; refine (in_any _ _).mono ?_; rintro e w' ⟨rfl, rfl⟩) | (go_at_call 62; refine (ffloor_any _ _ _ (by omega) (by omega) (by omega)).mono ?_; rintro e w' ⟨rfl, rfl⟩) | (go_at_call 36; refine (clamp_any _ _).mono ?_; rintro e w' ⟨rfl, rfl⟩))
    go_ret
    exact ⟨by rw [divS_zero_neg HZ.out h1]; rfl, rfl⟩
  · skip
    have HZ := Lib.hid h0
    have hz : (heldS b != 0) = false := by simp [h0]
    clear h0
    go_enter Try.func43, Try.ntmps43
    go_wp2_with (first | (go_at_call 61; refine (in_any _ _).mono ?_; rintro e w' ⟨rfl, rfl⟩) | (go_at_call 62; refine (ffloor_any _ _ _ (by omega) (by omega) (by omega)).mono ?_; rintro e w' ⟨rfl, rfl⟩) | (go_at_call 36; refine (clamp_any _ _).mono ?_; rintro e w' ⟨rfl, rfl⟩))
    go_ret
    exact ⟨by rw [divS_zero_zero HZ.out (by omega)]; rfl, rfl⟩
  · skip
    have HZ := Lib.hid h0
    have hz : (heldS b != 0) = true := by simpa using h0
    go_enter Try.func43, Try.ntmps43
    go_wp2_with (first | (go_at_call 61; refine (in_any _ _).mono ?_; rintro e w' ⟨rfl, rfl⟩) | (go_at_call 62; refine (ffloor_any _ _ _ (by omega) (by omega) (by omega)).mono ?_; rintro e w' ⟨rfl, rfl⟩) | (go_at_call 36; refine (clamp_any _ _).mono ?_; rintro e w' ⟨rfl, rfl⟩))
    go_ret
    exact ⟨by rw [divS_of HZ.out]; rfl, rfl⟩

theorem rdiv_any (a b : Int) (w : World) :
    Calls Try.prog 46 #[.int .i64 a, .int .i64 b] w fun e w' => e = .returned (.int .i64 (divS a b)) ∧ w = w' := by
  have ha := heldS_bd a
  have hb := heldS_bd b
  rcases (by omega : (heldS b = 0 ∧ 0 < heldS a) ∨ (heldS b = 0 ∧ heldS a < 0) ∨ (heldS b = 0 ∧ 0 ≤ heldS a ∧ heldS a ≤ 0) ∨ heldS b < 0 ∨ 0 < heldS b) with ⟨h0, h1⟩ | ⟨h0, h1⟩ | ⟨h0, h1, h2⟩ | h0 | h0
  · skip
    have HZ := Lib.hid h0
    have hz : (heldS b == 0) = true := by simp [h0]
    clear h0
    go_enter Try.func46, Try.ntmps46
    go_wp2_with (first | (go_at_call 38; refine (held_any _ _).mono ?_; rintro e w' ⟨rfl, rfl⟩) | (go_at_call 39; refine (rdown_any _ _ _ (by omega) (by omega) (by omega) (by omega)).mono ?_; rintro e w' ⟨rfl, rfl⟩))
    go_ret
    exact ⟨by rw [divS_zero_pos HZ.out h1]; rfl, rfl⟩
  · skip
    have HZ := Lib.hid h0
    have hz : (heldS b == 0) = true := by simp [h0]
    clear h0
    go_enter Try.func46, Try.ntmps46
    go_wp2_with (first | (go_at_call 38; refine (held_any _ _).mono ?_; rintro e w' ⟨rfl, rfl⟩) | (go_at_call 39; refine (rdown_any _ _ _ (by omega) (by omega) (by omega) (by omega)).mono ?_; rintro e w' ⟨rfl, rfl⟩))
    go_ret
    exact ⟨by rw [divS_zero_neg HZ.out h1]; rfl, rfl⟩
  · skip
    have HZ := Lib.hid h0
    have hz : (heldS b == 0) = true := by simp [h0]
    clear h0
    go_enter Try.func46, Try.ntmps46
    go_wp2_with (first | (go_at_call 38; refine (held_any _ _).mono ?_; rintro e w' ⟨rfl, rfl⟩) | (go_at_call 39; refine (rdown_any _ _ _ (by omega) (by omega) (by omega) (by omega)).mono ?_; rintro e w' ⟨rfl, rfl⟩))
    go_ret
    exact ⟨by rw [divS_zero_zero HZ.out (by omega)]; rfl, rfl⟩
  · skip
    have hz : (heldS b == 0) = false := by simp; omega
    have HF := Lib.hid (fdiv_neg (n := heldS a * 65536) h0)
    go_enter Try.func46, Try.ntmps46
    go_wp2_with (first | (go_at_call 38; refine (held_any _ _).mono ?_; rintro e w' ⟨rfl, rfl⟩) | (go_at_call 39; refine (rdown_any _ _ _ (by omega) (by omega) (by omega) (by omega)).mono ?_; rintro e w' ⟨rfl, rfl⟩))
    go_ret
    exact ⟨by rw [divS_of (by omega), ← HF.out, ← Int.neg_mul, Int.ediv_neg]; rfl, rfl⟩
  · skip
    have hz : (heldS b == 0) = false := by simp; omega
    have HF := Lib.hid (fdiv_pos (n := heldS a * 65536) h0)
    go_enter Try.func46, Try.ntmps46
    go_wp2_with (first | (go_at_call 38; refine (held_any _ _).mono ?_; rintro e w' ⟨rfl, rfl⟩) | (go_at_call 39; refine (rdown_any _ _ _ (by omega) (by omega) (by omega) (by omega)).mono ?_; rintro e w' ⟨rfl, rfl⟩))
    go_ret
    exact ⟨by rw [divS_of (by omega), ← HF.out]; rfl, rfl⟩




end Go.Proofs.Ytonlllijdbjkaaa
