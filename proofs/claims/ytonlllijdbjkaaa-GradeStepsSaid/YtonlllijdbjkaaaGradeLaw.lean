/- Curves: plain laws. No condition. -/
import Derived.Test.YtonlllijdbjkaaaLoopA
set_option linter.unusedVariables false
namespace Go.Proofs.Ytonlllijdbjkaaa

structure OkPin (l : List (List Ct)) (k : Nat) : Prop where
  x0 : -16777216 ≤ (rd l k 0).int
  x1 : (rd l k 0).int ≤ 16777216
  y0 : -16777216 ≤ (rd l k 1).int
  y1 : (rd l k 1).int ≤ 16777216
  up : 0 < k → (rd l (k - 1) 0).int < (rd l k 0).int
structure RightP (l : List (List Ct)) : Prop where
  n0 : 1 ≤ l.length
  n1 : l.length ≤ 16
  pin : ∀ k, k < l.length → OkPin l k
open Classical in
noncomputable def rightS (l : List (List Ct)) : Bool := decide (RightP l)
theorem rightS_true {l : List (List Ct)} (h : RightP l) : rightS l = true := by simp [rightS, h]
theorem rightS_false {l : List (List Ct)} (h : ¬ RightP l) : rightS l = false := by simp [rightS, h]
theorem rightS_iff {l : List (List Ct)} : rightS l = true ↔ RightP l := by simp [rightS]
/-- A loop that looks at each, and leaves where one is not as it should be. -/
theorem iter_check {step : Int → Option (Int ⊕ (Int ⊕ Unit))} {n : Nat} {P : Nat → Prop} (k0 : Nat) (hin : ∀ k, k < n → (P k → step ((k + k0 : Nat) : Int) = some (.inl ((k + 1 + k0 : Nat) : Int))) ∧ (¬ P k → step ((k + k0 : Nat) : Int) = some (.inr (.inr ()))))
    (hout : step ((n + k0 : Nat) : Int) = some (.inr (.inl ((n + k0 : Nat) : Int)))) : ∀ (d k m : Nat), k + d = n → d < m →
      ((∀ j, k ≤ j → j < n → P j) → iter step m ((k + k0 : Nat) : Int) = some (.inl ((n + k0 : Nat) : Int))) ∧ ((∃ j, k ≤ j ∧ j < n ∧ ¬ P j) → iter step m ((k + k0 : Nat) : Int) = some (.inr ())) := by
  intro d
  induction d with
  | zero =>
    intro k m hk hm
    obtain ⟨m, rfl⟩ : ∃ m', m = m' + 1 := ⟨m - 1, by omega⟩
    obtain rfl : k = n := by omega
    exact ⟨fun _ => by simp only [iter, hout], fun ⟨j, h1, h2, _⟩ => by omega⟩
  | succ d ih =>
    intro k m hk hm
    obtain ⟨m, rfl⟩ : ∃ m', m = m' + 1 := ⟨m - 1, by omega⟩
    obtain ⟨h1, h2⟩ := hin k (by omega)
    obtain ⟨i1, i2⟩ := ih (k + 1) m (by omega) (by omega)
    refine ⟨fun h => ?_, fun ⟨j, hj1, hj2, hj3⟩ => ?_⟩
    · simp only [iter, h1 (h k (Nat.le_refl _) (by omega))]
      exact i1 fun j hj => h j (by omega)
    · by_cases hp : P k
      · simp only [iter, h1 hp]
        refine i2 ⟨j, ?_, hj2, hj3⟩
        rcases Nat.lt_or_ge k j with h | h
        · exact h
        · obtain rfl : j = k := by omega
          exact absurd hp hj3
      · simp only [iter, h2 hp]
end Go.Proofs.Ytonlllijdbjkaaa
