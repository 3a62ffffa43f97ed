/- Rays' points between two places, boxes that meet: plain laws. No condition. -/
import Derived.Test.YtgmopdnknkjfpaaEngRay3f
set_option linter.unusedVariables false
set_option linter.unusedSimpArgs false
namespace Go.Proofs.Ytgmopdnknkjfpaa
open Go.RowKit

theorem mul_up {d t t' : Int} (h : t ≤ t') : (0 ≤ heldS d → mulS d t ≤ mulS d t') ∧ (heldS d ≤ 0 → mulS d t' ≤ mulS d t) := by
  have ht := heldS_mono h
  unfold mulS
  refine ⟨fun hd => heldS_mono (Int.ediv_le_ediv (by omega) (Int.mul_le_mul_of_nonneg_left ht hd)), fun hd => heldS_mono (Int.ediv_le_ediv (by omega) ?_)⟩
  have := Int.mul_le_mul_of_nonneg_left ht (by omega : 0 ≤ -heldS d)
  rw [Int.neg_mul, Int.neg_mul] at this
  exact Int.le_of_neg_le_neg this
theorem add_up {f x y : Int} (h : x ≤ y) : addS f x ≤ addS f y := by
  have := heldS_mono h
  unfold addS
  exact heldS_mono (by omega)
theorem at_between (f d : Int) {l t h : Int} (h1 : l ≤ t) (h2 : t ≤ h) : (addS f (mulS d l) ≤ addS f (mulS d t) ∧ addS f (mulS d t) ≤ addS f (mulS d h)) ∨ (addS f (mulS d h) ≤ addS f (mulS d t) ∧ addS f (mulS d t) ≤ addS f (mulS d l)) := by
  by_cases hd : 0 ≤ heldS d
  · exact .inl ⟨add_up ((mul_up h1).1 hd), add_up ((mul_up h2).1 hd)⟩
  · exact .inr ⟨add_up ((mul_up h2).2 (by omega)), add_up ((mul_up h1).2 (by omega))⟩
theorem in_ends {a b c : Int} (h : (a ≤ b ∧ b ≤ c) ∨ (c ≤ b ∧ b ≤ a)) : (¬ b < if c < a then c else a) ∧ ¬ b > if c > a then c else a := ⟨by split <;> omega, by split <;> omega⟩
theorem span_has (r0 r1 r2 r3 r4 r5 r6 : Int) {l t h : Int} (h1 : l ≤ t) (h2 : t ≤ h) :
    bhas_v (rspan_v r0 r1 r2 r3 r4 r5 r6 l h).1 (rspan_v r0 r1 r2 r3 r4 r5 r6 l h).2.1 (rspan_v r0 r1 r2 r3 r4 r5 r6 l h).2.2.1 (rspan_v r0 r1 r2 r3 r4 r5 r6 l h).2.2.2.1 (rspan_v r0 r1 r2 r3 r4 r5 r6 l h).2.2.2.2.1 (rspan_v r0 r1 r2 r3 r4 r5 r6 l h).2.2.2.2.2
      (rat_v r0 r1 r2 r3 r4 r5 r6 t).1 (rat_v r0 r1 r2 r3 r4 r5 r6 t).2.1 (rat_v r0 r1 r2 r3 r4 r5 r6 t).2.2 = true := by
  obtain ⟨a1, a2⟩ := in_ends (at_between r0 r3 h1 h2)
  obtain ⟨b1, b2⟩ := in_ends (at_between r1 r4 h1 h2)
  obtain ⟨c1, c2⟩ := in_ends (at_between r2 r5 h1 h2)
  unfold bhas_v rspan_v rat_v
  dsimp only
  rw [decide_eq_false a1, decide_eq_false a2, decide_eq_false b1, decide_eq_false b2, decide_eq_false c1, decide_eq_false c2]
  rfl
theorem has_spec {a0 a1 a2 a3 a4 a5 v0 v1 v2 : Int} (h : bhas_v a0 a1 a2 a3 a4 a5 v0 v1 v2 = true) : a0 ≤ v0 ∧ v0 ≤ a3 ∧ a1 ≤ v1 ∧ v1 ≤ a4 ∧ a2 ≤ v2 ∧ v2 ≤ a5 := by
  unfold bhas_v at h
  simp only [Bool.cond_decide] at h
  refine ⟨?_, ?_, ?_, ?_, ?_, ?_⟩ <;> (apply Int.not_lt.1; intro hc; revert h; simp [*])
  all_goals (try omega)
theorem meets_of {a0 a1 a2 a3 a4 a5 b0 b1 b2 b3 b4 b5 v0 v1 v2 : Int} (h : bhas_v a0 a1 a2 a3 a4 a5 v0 v1 v2 = true) (k : bhas_v b0 b1 b2 b3 b4 b5 v0 v1 v2 = true) : bmeets_v a0 a1 a2 a3 a4 a5 b0 b1 b2 b3 b4 b5 = true := by
  obtain ⟨h0, h1, h2, h3, h4, h5⟩ := has_spec h
  obtain ⟨k0, k1, k2, k3, k4, k5⟩ := has_spec k
  unfold bmeets_v
  rw [decide_eq_false (by omega : ¬ b3 < a0), decide_eq_false (by omega : ¬ b0 > a3), decide_eq_false (by omega : ¬ b4 < a1), decide_eq_false (by omega : ¬ b1 > a4), decide_eq_false (by omega : ¬ b5 < a2), decide_eq_false (by omega : ¬ b2 > a5)]
  rfl
end Go.Proofs.Ytgmopdnknkjfpaa
