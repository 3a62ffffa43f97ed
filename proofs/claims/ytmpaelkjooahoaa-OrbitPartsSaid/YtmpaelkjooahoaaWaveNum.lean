/- Plain laws of the wave: its value, its bounds, half and whole turns, the smooth way. No condition. -/
import Derived.Test.YtmpaelkjooahoaaNum
set_option linter.unusedVariables false
namespace Go.Proofs.Ytmpaelkjooahoaa
open Go.RowKit

def halfP (y : Int) : Int := mulS y (subS 65536 y)
def halfS (y : Int) : Int := divS (16 * halfP y) (327680 - 4 * halfP y)
def sinS (x : Int) : Int := if partS x < 32768 then halfS (2 * partS x) else -halfS (2 * partS x - 65536)
def cosS (x : Int) : Int := sinS (partS x + 16384)
def easeS (t : Int) : Int := mulS (mulS (unS t) (unS t)) (subS 196608 (2 * unS t))

theorem halfP_bd (y : Int) : -2147483648 ≤ halfP y ∧ halfP y ≤ 2147483648 := mulS_bd _ _
theorem halfS_bd (y : Int) : -2147483648 ≤ halfS y ∧ halfS y ≤ 2147483648 := divS_bd _ _
theorem sinS_bd (y : Int) : -2147483648 ≤ sinS y ∧ sinS y ≤ 2147483648 := by
  have h1 := halfS_bd (2 * partS y)
  have h2 := halfS_bd (2 * partS y - 65536)
  unfold sinS
  split <;> omega
theorem halfP_of {y : Int} (h0 : 0 ≤ y) (h1 : y ≤ 65536) : halfP y = y * (65536 - y) / 65536 := by
  have hb := mul_bd (x := y) (y := 65536 - y) (B := 65536) (C := 65536) (by omega) (by omega) (by omega) (by omega)
  unfold halfP mulS subS
  rw [heldS_id (n := 65536) (by omega) (by omega), heldS_id (n := y) (by omega) (by omega), heldS_id (n := 65536 - y) (by omega) (by omega), heldS_id (n := 65536 - y) (by omega) (by omega)]
  exact heldS_id (by omega) (by omega)
theorem halfP_span {y : Int} (h0 : 0 ≤ y) (h1 : y ≤ 65536) : 0 ≤ halfP y ∧ halfP y ≤ 16384 := by
  rw [halfP_of h0 h1]
  have k1 : 0 ≤ y * (65536 - y) := Int.mul_nonneg h0 (by omega)
  have k2 : 0 ≤ (y - 32768) * (y - 32768) := by
    rcases Int.le_total 0 (y - 32768) with h | h
    · exact Int.mul_nonneg h h
    · exact Int.mul_nonneg_of_nonpos_of_nonpos h h
  have k3 : y * (65536 - y) + (y - 32768) * (y - 32768) = 1073741824 := by
    simp only [Int.mul_sub, Int.sub_mul]
    omega
  omega
theorem halfS_span {y : Int} (h0 : 0 ≤ y) (h1 : y ≤ 65536) : 0 ≤ halfS y ∧ halfS y ≤ 65536 := by
  have hp := halfP_span h0 h1
  unfold halfS
  generalize halfP y = p at *
  have hd : heldS (327680 - 4 * p) = 327680 - 4 * p := heldS_id (by omega) (by omega)
  have hn : heldS (16 * p) = 16 * p := heldS_id (by omega) (by omega)
  rw [divS_of (by rw [hd]; omega), hd, hn, ← fdiv_pos (by omega)]
  have q0 : 0 ≤ 16 * p * 65536 / (327680 - 4 * p) := Int.ediv_nonneg (by omega) (by omega)
  have q1 : 16 * p * 65536 / (327680 - 4 * p) ≤ 65536 := by
    have : 16 * p * 65536 / (327680 - 4 * p) < 65537 := by
      refine Int.ediv_lt_of_lt_mul (by omega) ?_
      omega
    omega
  rw [heldS_id (by omega) (by omega)]
  exact ⟨q0, q1⟩
theorem sinS_span (x : Int) : -65536 ≤ sinS x ∧ sinS x ≤ 65536 := by
  have hp := partS_bd x
  unfold sinS
  split
  · have := halfS_span (y := 2 * partS x) (by omega) (by omega); omega
  · have := halfS_span (y := 2 * partS x - 65536) (by omega) (by omega); omega
theorem sinS_mod {x y : Int} (h : partS x = partS y) : sinS x = sinS y := by unfold sinS; rw [h]
theorem partS_of {x : Int} (h0 : -2147483648 ≤ x) (h1 : x ≤ 2147483648) : partS x = x % 65536 := by unfold partS; rw [heldS_id h0 h1]
theorem sinS_half {x : Int} (h0 : -2147418112 ≤ x) (h1 : x ≤ 2147418112) : sinS (x + 32768) = -sinS x := by
  have e1 := partS_of (x := x) (by omega) (by omega)
  have e2 := partS_of (x := x + 32768) (by omega) (by omega)
  unfold sinS
  by_cases h : x % 65536 < 32768
  · have e3 : partS (x + 32768) = partS x + 32768 := by rw [e1, e2]; omega
    rw [e3, if_neg (by omega), if_pos (by omega)]
    congr 2
    omega
  · have e3 : partS (x + 32768) = partS x - 32768 := by rw [e1, e2]; omega
    rw [e3, if_pos (by omega), if_neg (by omega), Int.neg_neg]
    congr 1
    omega
/-- The reference's quarter of a turn ahead. -/
theorem cosS_ref (x : Int) : sinS ((heldS x).tmod 65536 + 16384) = cosS x := by
  have hb := heldS_bd x
  have ht := tmod_bd (heldS x) 65536 (by omega)
  unfold cosS
  apply sinS_mod
  have hp := partS_bd x
  rw [partS_of (by omega) (by omega), partS_of (by omega) (by omega)]
  have hm := Int.mul_tdiv_add_tmod (heldS x) 65536
  unfold partS
  omega
theorem easeS_ref (t : Int) : mulS (mulS (unS t) (unS t)) (196608 - 2 * unS t) = easeS t := by
  have := unS_bd t
  unfold easeS subS
  rw [heldS_id (n := 196608) (by omega) (by omega), heldS_id (n := 2 * unS t) (by omega) (by omega), heldS_id (n := 196608 - 2 * unS t) (by omega) (by omega)]
theorem easeS_span (t : Int) : 0 ≤ easeS t ∧ easeS t ≤ 65536 := by
  rw [← easeS_ref]
  have hu := unS_bd t
  generalize unS t = u at *
  have k1 := mul_bd (x := u) (y := u) (B := 65536) (C := 65536) (by omega) (by omega) (by omega) (by omega)
  have k0 : 0 ≤ u * u := Int.mul_nonneg hu.1 hu.1
  have e1 : mulS u u = u * u / 65536 := by
    unfold mulS
    rw [heldS_id (n := u) (by omega) (by omega)]
    exact heldS_id (by omega) (by omega)
  rw [e1]
  have ha0 : 0 ≤ u * u / 65536 := by omega
  have ha1 : u * u / 65536 ≤ 65536 := by omega
  have ha2 : u * u / 65536 * 65536 ≤ u * u := by omega
  generalize u * u / 65536 = a at *
  have k3 : 0 ≤ a * (196608 - 2 * u) := Int.mul_nonneg ha0 (by omega)
  have k4 : 0 ≤ (65536 - u) * (65536 - u) := Int.mul_nonneg (by omega) (by omega)
  have k5 : 0 ≤ (65536 - u) * (65536 - u) * (65536 + 2 * u) := Int.mul_nonneg k4 (by omega)
  have k6 : a * 65536 * (196608 - 2 * u) ≤ u * u * (196608 - 2 * u) := Int.mul_le_mul_of_nonneg_right ha2 (by omega)
  have k7 : u * u * (196608 - 2 * u) + (65536 - u) * (65536 - u) * (65536 + 2 * u) = 281474976710656 := by grind
  have k8 : a * 65536 * (196608 - 2 * u) = a * (196608 - 2 * u) * 65536 := by grind
  have k9 : a * (196608 - 2 * u) ≤ 4294967296 := by omega
  unfold mulS
  rw [heldS_id (n := a) (by omega) (by omega), heldS_id (n := 196608 - 2 * u) (by omega) (by omega), heldS_id (by omega) (by omega)]
  omega
theorem unS_id {x : Int} (h0 : 0 ≤ x) (h1 : x ≤ 65536) : unS x = x := by unfold unS; rw [if_neg (by omega), if_neg (by omega)]
theorem cosS_span (x : Int) : -65536 ≤ cosS x ∧ cosS x ≤ 65536 := sinS_span _
theorem sinS_turn {x : Int} (k : Int) (h0 : -2147483648 ≤ x) (h1 : x ≤ 2147483648) (h2 : -2147483648 ≤ x + k * 65536) (h3 : x + k * 65536 ≤ 2147483648) : sinS (x + k * 65536) = sinS x := by
  apply sinS_mod
  rw [partS_of h0 h1, partS_of h2 h3]
  omega
theorem wave_awake : sinS 16384 = 65536 ∧ cosS 0 = 65536 ∧ sinS 32768 = 0 ∧ easeS 32768 = 32768 ∧ easeS 0 = 0 ∧ easeS 65536 = 65536 := by decide +kernel
end Go.Proofs.Ytmpaelkjooahoaa
