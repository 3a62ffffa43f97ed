/- Plain laws of how light is shown: it never falls, and lies between nothing and one. No condition. -/
import Derived.Test.YtonlllijdbjkaaaNum
set_option linter.unusedVariables false
namespace Go.Proofs.Ytonlllijdbjkaaa
open Go.RowKit

def posS (x : Int) : Int := if heldS x < 0 then 0 else heldS x
def toneS (x : Int) : Int := rootS (divS (posS x) (addS (posS x) 65536))
def shadeS (y : Int) : Int := (255 * unS y + 32768) / 65536
theorem posS_bd (x : Int) : 0 ≤ posS x ∧ posS x ≤ 2147483648 := by have := heldS_bd x; unfold posS; split <;> omega
theorem posS_mono {x y : Int} (h : x ≤ y) : posS x ≤ posS y := by have := heldS_mono h; have := heldS_bd y; unfold posS; split <;> split <;> omega
theorem shadeS_bd (y : Int) : 0 ≤ shadeS y ∧ shadeS y ≤ 255 := by have := unS_bd y; unfold shadeS; omega
theorem unS_mono {x y : Int} (h : x ≤ y) : unS x ≤ unS y := by
  unfold unS
  (repeat' split) <;> omega
theorem shadeS_mono {x y : Int} (h : x ≤ y) : shadeS x ≤ shadeS y := by have := unS_mono h; unfold shadeS; omega
theorem rootS_mono {x y : Int} (h : x ≤ y) : rootS x ≤ rootS y := by
  have hh := heldS_mono h
  by_cases hx : 0 < heldS x
  · have k1 := rootS_spec hx
    have k2 := rootS_spec (a := y) (by omega)
    rcases Int.lt_or_le (rootS y) (rootS x) with h' | h'
    · have := Int.mul_le_mul (show rootS y + 1 ≤ rootS x by omega) (show rootS y + 1 ≤ rootS x by omega) (by omega) k1.1
      omega
    · exact h'
  · rw [rootS_zero (by omega)]
    exact (rootS_bd y).1
def denS (p : Int) : Int := if p + 65536 ≤ 2147483648 then p + 65536 else 2147483648
theorem den_of {p : Int} (h0 : 0 ≤ p) (h1 : p ≤ 2147483648) : heldS (addS p 65536) = denS p := by
  unfold addS denS
  rw [heldS_held, heldS_id (n := p) (by omega) (by omega), heldS_id (n := 65536) (by omega) (by omega)]
  split
  · exact heldS_id (by omega) (by omega)
  · exact heldS_hi (by omega)
theorem den_bd {p : Int} (h0 : 0 ≤ p) (h1 : p ≤ 2147483648) : 65536 ≤ denS p ∧ denS p ≤ 2147483648 ∧ p ≤ denS p := by unfold denS; split <;> omega
theorem ratio_of {p : Int} (h0 : 0 ≤ p) (h1 : p ≤ 2147483648) : divS p (addS p 65536) = p * 65536 / denS p ∧ 0 ≤ p * 65536 / denS p ∧ p * 65536 / denS p ≤ 65536 := by
  have hd := den_bd h0 h1
  have q0 : 0 ≤ p * 65536 / denS p := Int.ediv_nonneg (by omega) (by omega)
  have q1 : p * 65536 / denS p ≤ 65536 := by
    have : p * 65536 / denS p < 65537 := Int.ediv_lt_of_lt_mul (by omega) (by omega)
    omega
  refine ⟨?_, q0, q1⟩
  rw [divS_of (by rw [den_of h0 h1]; omega), den_of h0 h1, heldS_id (n := p) (by omega) (by omega), ← fdiv_pos (by omega)]
  exact heldS_id (by omega) (by omega)
theorem ratio_mono {p q : Int} (h0 : 0 ≤ p) (h : p ≤ q) (h1 : q ≤ 2147483648) : p * 65536 / denS p ≤ q * 65536 / denS q := by
  have dp := den_bd h0 (by omega)
  have dq := den_bd (p := q) (by omega) h1
  have cross : p * denS q ≤ q * denS p := by
    have k1 : p * q = q * p := Int.mul_comm p q
    unfold denS
    split <;> split
    · rw [Int.mul_add, Int.mul_add]; omega
    · exfalso; omega
    · have hm : p * 2147483648 ≤ p * (q + 65536) := Int.mul_le_mul_of_nonneg_left (by omega) h0
      rw [Int.mul_add p q 65536] at hm
      rw [Int.mul_add q p 65536]
      omega
    · omega
  rw [Int.le_ediv_iff_mul_le (by omega)]
  have k2 : p * 65536 / denS p * denS p ≤ p * 65536 := Int.ediv_mul_le _ (by omega)
  have k0 : 0 ≤ p * 65536 / denS p := Int.ediv_nonneg (by omega) (by omega)
  generalize p * 65536 / denS p = r at *
  have k3 : r * denS p * denS q ≤ p * 65536 * denS q := Int.mul_le_mul_of_nonneg_right k2 (by omega)
  have k4 : p * 65536 * denS q = p * denS q * 65536 := by grind
  have k5 : r * denS p * denS q = r * denS q * denS p := by grind
  have k6 : r * denS q * denS p ≤ q * 65536 * denS p := by
    have e : q * 65536 * denS p = q * denS p * 65536 := by grind
    omega
  exact Int.le_of_mul_le_mul_right k6 (by omega)
theorem toneS_mono {x y : Int} (h : x ≤ y) : toneS x ≤ toneS y := by
  have hp := posS_bd x
  have hq := posS_bd y
  unfold toneS
  apply rootS_mono
  rw [(ratio_of hp.1 hp.2).1, (ratio_of hq.1 hq.2).1]
  exact ratio_mono hp.1 (posS_mono h) hq.2
theorem toneS_bd (x : Int) : 0 ≤ toneS x ∧ toneS x ≤ 65536 := by
  have hp := posS_bd x
  have hr := ratio_of hp.1 hp.2
  unfold toneS
  refine ⟨(rootS_bd _).1, ?_⟩
  rw [hr.1]
  generalize posS x * 65536 / denS (posS x) = r at *
  by_cases h : 0 < heldS r
  · have k := rootS_spec h
    have e : heldS r = r := heldS_id (by omega) (by omega)
    rcases Int.lt_or_le 65536 (rootS r) with h' | h'
    · have := Int.mul_le_mul (show 65537 ≤ rootS r by omega) (show 65537 ≤ rootS r by omega) (by omega) k.1
      omega
    · exact h'
  · rw [rootS_zero (by omega)]; omega
theorem tone_one : toneS 65536 = 46340 := by decide +kernel
theorem shade_one : shadeS 65536 = 255 := by decide
theorem show_zero : shadeS (toneS 0) = 0 := by decide +kernel
end Go.Proofs.Ytonlllijdbjkaaa
