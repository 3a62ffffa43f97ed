/- What lies between: plain laws of numbers. No condition. -/
import Derived.Test.YtmpaelkjooahoaaNum
set_option linter.unusedVariables false
namespace Go.Proofs.Ytmpaelkjooahoaa

/-- A way between two numbers lies between them. -/
theorem lerp_in (a b t : Int) : (heldS a ≤ heldS b → heldS a ≤ lerpS a b t ∧ lerpS a b t ≤ heldS b) ∧ (heldS b ≤ heldS a → heldS b ≤ lerpS a b t ∧ lerpS a b t ≤ heldS a) := by
  have hu := unS_bd t
  have ha := heldS_bd a
  have hb := heldS_bd b
  unfold lerpS
  generalize unS t = u at hu ⊢
  generalize heldS a = A at ha ⊢
  generalize heldS b = B at hb ⊢
  refine ⟨fun h => ?_, fun h => ?_⟩
  · have h1 : 0 ≤ (B - A) * u := Int.mul_nonneg (by omega) hu.1
    have h2 : (B - A) * u ≤ (B - A) * 65536 := Int.mul_le_mul_of_nonneg_left hu.2 (by omega)
    generalize (B - A) * u = m at h1 h2 ⊢
    rw [heldS_id (by omega) (by omega)]
    omega
  · have e : (B - A) * u = -((A - B) * u) := by rw [← Int.neg_mul]; congr 1; omega
    have h1 : 0 ≤ (A - B) * u := Int.mul_nonneg (by omega) hu.1
    have h2 : (A - B) * u ≤ (A - B) * 65536 := Int.mul_le_mul_of_nonneg_left hu.2 (by omega)
    rw [e]
    generalize (A - B) * u = m at h1 h2 ⊢
    rw [heldS_id (by omega) (by omega)]
    omega
theorem lerp_min (a b t : Int) : ¬ lerpS a b t < if heldS b < heldS a then heldS b else heldS a := by
  have := lerp_in a b t
  split <;> omega
theorem lerp_max (a b t : Int) : ¬ lerpS a b t > if heldS b > heldS a then heldS b else heldS a := by
  have := lerp_in a b t
  split <;> omega
end Go.Proofs.Ytmpaelkjooahoaa
