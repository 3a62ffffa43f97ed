/- Loops as they come: copies, searches, choices. No condition. -/
import Derived.Test.YthgneojhhocflaaCol
set_option linter.unusedVariables false
set_option linter.unusedSimpArgs false
namespace Go.Proofs.Ythgneojhhocflaa
open Go.RowKit

theorem iter_run_from {V R : Type} {step : V → Option (V ⊕ R)} (S : Nat → V) {n : Nat} {r : R} (hin : ∀ k, k < n → step (S k) = some (.inl (S (k + 1)))) (hout : step (S n) = some (.inr r)) : ∀ (d k m : Nat), k + d = n → d < m → iter step m (S k) = some r := by
  intro d
  induction d with
  | zero =>
    intro k m hk hm
    obtain ⟨m, rfl⟩ : ∃ m', m = m' + 1 := ⟨m - 1, by omega⟩
    obtain rfl : k = n := by omega
    exact iter_inr hout
  | succ d ih =>
    intro k m hk hm
    obtain ⟨m, rfl⟩ : ∃ m', m = m' + 1 := ⟨m - 1, by omega⟩
    rw [iter_inl (hin k (by omega))]
    exact ih (k + 1) m (by omega) (by omega)
/-- A loop that goes through its places one by one. -/
theorem iter_run {V R : Type} {step : V → Option (V ⊕ R)} (S : Nat → V) {n m : Nat} {r : R} {v : V} (hv : v = S 0) (hin : ∀ k, k < n → step (S k) = some (.inl (S (k + 1)))) (hout : step (S n) = some (.inr r)) (hm : n < m) : iter step m v = some r := by
  rw [hv]; exact iter_run_from S hin hout n 0 m (by omega) hm
theorem iter_run2_from {V R : Type} {step : V → Option (V ⊕ R)} (S : Nat → V) {n : Nat} {r : R} (hin : ∀ k, k < n → step (S k) = some (.inl (S (k + 1)))) (hout : step (S n) = some (.inr r)) : ∀ (d k m : Nat), k + d = n → d < m → iter step m (S k) = some r := iter_run_from S hin hout
theorem wrap_succ {k : Nat} (h : k < 9223372036854775807) : IntKind.i64.wrap ((k : Int) + 1) = ((k + 1 : Nat) : Int) := by rw [wrap_in (by omega) (by omega)]; omega
/-- A search. -/
def findB (bad : Nat → Bool) : Nat → Nat → Option Nat
  | 0, _ => none
  | d + 1, k => bif bad k then some k else findB bad d (k + 1)
theorem findB_congr {f g : Nat → Bool} : ∀ {d k : Nat}, (∀ j, k ≤ j → j < k + d → f j = g j) → findB f d k = findB g d k := by
  intro d
  induction d with
  | zero => intro k _; rfl
  | succ d ih =>
    intro k h
    simp only [findB]
    rw [h k (Nat.le_refl _) (by omega), ih fun j h1 h2 => h j (by omega) (by omega)]
theorem findB_none {f : Nat → Bool} : ∀ {d k : Nat}, findB f d k = none ↔ ∀ j, k ≤ j → j < k + d → f j = false := by
  intro d
  induction d with
  | zero => intro k; exact ⟨fun _ j h1 h2 => by omega, fun _ => rfl⟩
  | succ d ih =>
    intro k
    simp only [findB]
    cases hf : f k with
    | true =>
      simp only [cond_true, reduceCtorEq, false_iff]
      intro h
      have := h k (Nat.le_refl _) (by omega)
      rw [hf] at this
      cases this
    | false =>
      simp only [cond_false, ih]
      constructor
      · intro h j h1 h2
        by_cases hj : j = k
        · subst hj; exact hf
        · exact h j (by omega) (by omega)
      · intro h j h1 h2
        exact h j (by omega) (by omega)
theorem findB_some {f : Nat → Bool} : ∀ {d k i : Nat}, findB f d k = some i → k ≤ i ∧ i < k + d ∧ f i = true ∧ ∀ j, k ≤ j → j < i → f j = false := by
  intro d
  induction d with
  | zero => intro k i h; cases h
  | succ d ih =>
    intro k i h
    simp only [findB] at h
    cases hf : f k with
    | true =>
      rw [hf] at h
      simp only [cond_true, Option.some.injEq] at h
      subst h
      exact ⟨Nat.le_refl _, by omega, hf, fun j h1 h2 => by omega⟩
    | false =>
      rw [hf] at h
      obtain ⟨h1, h2, h3, h4⟩ := ih h
      refine ⟨by omega, by omega, h3, fun j h5 h6 => ?_⟩
      by_cases hj : j = k
      · subst hj; exact hf
      · exact h4 j (by omega) h6
theorem iter_find_from {B : Type} {step : Int → Option (Int ⊕ (Int ⊕ B))} {n : Nat} {bad : Nat → Bool} {b : Nat → B} (hin : ∀ k, k < n → step (k : Int) = some (bif bad k then .inr (.inr (b k)) else .inl ((k + 1 : Nat) : Int))) (hout : step (n : Int) = some (.inr (.inl (n : Int)))) :
    ∀ (d k m : Nat), k + d = n → d < m → iter step m (k : Int) = some (match findB bad d k with | some i => .inr (b i) | none => .inl (n : Int)) := by
  intro d
  induction d with
  | zero =>
    intro k m hk hm
    obtain ⟨m, rfl⟩ : ∃ m', m = m' + 1 := ⟨m - 1, by omega⟩
    obtain rfl : k = n := by omega
    exact iter_inr hout
  | succ d ih =>
    intro k m hk hm
    obtain ⟨m, rfl⟩ : ∃ m', m = m' + 1 := ⟨m - 1, by omega⟩
    have h := hin k (by omega)
    simp only [findB]
    cases hb : bad k with
    | true => rw [hb] at h; exact iter_inr h
    | false => rw [hb] at h; rw [iter_inl h]; exact ih (k + 1) m (by omega) (by omega)
/-- A loop that leaves at the first bad one. -/
theorem iter_find {B : Type} {step : Int → Option (Int ⊕ (Int ⊕ B))} {n m : Nat} (bad : Nat → Bool) (b : Nat → B) (hin : ∀ k, k < n → step (k : Int) = some (bif bad k then .inr (.inr (b k)) else .inl ((k + 1 : Nat) : Int))) (hout : step (n : Int) = some (.inr (.inl (n : Int)))) (hm : n < m) :
    iter step m 0 = some (match findB bad n 0 with | some i => .inr (b i) | none => .inl (n : Int)) := iter_find_from hin hout n 0 m (by omega) hm
/-- Numbers that are chosen. -/
def filtR (c : Nat → Bool) : Nat → List (List Ct)
  | 0 => []
  | k + 1 => bif c k then filtR c k ++ [[.i k]] else filtR c k
theorem filtR_length {c : Nat → Bool} : ∀ {n : Nat}, (filtR c n).length ≤ n := by
  intro n
  induction n with
  | zero => simp [filtR]
  | succ n ih =>
    simp only [filtR]
    cases c n with
    | true => simp; omega
    | false => simp; omega
theorem filtR_congr {f g : Nat → Bool} : ∀ {n : Nat}, (∀ k, k < n → f k = g k) → filtR f n = filtR g n := by
  intro n
  induction n with
  | zero => intro _; rfl
  | succ n ih => intro h; simp only [filtR, h n (by omega), ih fun k hk => h k (by omega)]

theorem cond_decI {α : Type} {c : Prop} {i : Decidable c} {a b : α} (h : c) : (bif @decide c i then a else b) = a := by rw [decide_eq_true h]; rfl
theorem cond_notI {α : Type} {c : Prop} {i : Decidable c} {a b : α} (h : ¬ c) : (bif @decide c i then a else b) = b := by rw [decide_eq_false h]; rfl
theorem isSome_cond {α : Type} {c : Bool} {a b : Option α} : (bif c then a else b).isSome = bif c then a.isSome else b.isSome := by cases c <;> rfl
theorem cond_same {α : Type} {c : Bool} {a : α} : (bif c then a else a) = a := by cases c <;> rfl
theorem cond_false_l {c x : Bool} : (bif c then false else x) = (!c && x) := by cases c <;> rfl
theorem cond_false_r {c x : Bool} : (bif c then x else false) = (c && x) := by cases c <;> rfl
theorem getD_cond {α : Type} {c : Bool} {a b : Option α} {d : α} : (bif c then a else b).getD d = bif c then a.getD d else b.getD d := by cases c <;> rfl
theorem some_getD {α : Type} [Inhabited α] {o : Option α} (h : o.isSome = true) : o = some (o.getD default) := by cases o with | none => cases h | some v => rfl
end Go.Proofs.Ythgneojhhocflaa
