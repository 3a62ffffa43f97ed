/- The numbers of rows of one cell; rounds of a loop, one by one. No condition. -/
import Derived.Test.YthgneojhhocflaaIter
set_option linter.unusedVariables false
set_option linter.unusedSimpArgs false
namespace Go.Proofs.Ythgneojhhocflaa
open Go.RowKit

theorem iter_inl {V R : Type} {step : V → Option (V ⊕ R)} {n : Nat} {v v' : V} (h : step v = some (.inl v')) : iter step (n + 1) v = iter step n v' := by simp only [iter, h]
theorem iter_inr {V R : Type} {step : V → Option (V ⊕ R)} {n : Nat} {v : V} {r : R} (h : step v = some (.inr r)) : iter step (n + 1) v = some r := by simp only [iter, h]
theorem wrap_u8 {n : Int} (h0 : 0 ≤ n) (h1 : n < 256) : IntKind.u8.wrap n = n := by
  simp [IntKind.wrap, IntKind.bits, IntKind.signed]; omega

/-- The numbers of the rows. -/
def col (l : List (List Ct)) : List Int := l.map fun r => (r.getD 0 (.i 0)).int
theorem col_length {l : List (List Ct)} : (col l).length = l.length := by simp [col]
theorem rd_col {l : List (List Ct)} {i : Nat} : (rd l i 0).int = (col l).getD i 0 := by
  unfold rd col
  by_cases h : i < l.length
  · simp [List.getD, h]
  · simp [List.getD, h]; rfl
theorem col_app {a b : List (List Ct)} : col (a ++ b) = col a ++ col b := by simp [col]
theorem col_nil : col [] = [] := rfl
theorem col_cons {c : Ct} {l : List (List Ct)} : col ([c] :: l) = c.int :: col l := rfl
theorem col_part {l : List (List Ct)} {a b : Int} : col (partOf l a b) = ((col l).drop a.toNat).take (b.toNat - a.toNat) := by simp [col, partOf, List.map_take, List.map_drop]
theorem strOf_col {a b : List (List Ct)} (h : col a = col b) : strOf a = strOf b := by unfold strOf; unfold col at h; rw [h]
theorem drop_nil {s : List Int} {i : Nat} (h : s.drop i = []) : s.length ≤ i := by simpa using h
theorem drop_cons {s : List Int} {i : Nat} {y : Int} {t : List Int} (h : s.drop i = y :: t) : i < s.length ∧ s.getD i 0 = y ∧ s.drop (i + 1) = t := by
  have hi : i < s.length := by
    rcases Nat.lt_or_ge i s.length with h' | h'
    · exact h'
    · rw [List.drop_eq_nil_of_le h'] at h; cases h
  rw [List.drop_eq_getElem_cons hi] at h
  simp only [List.cons.injEq] at h
  exact ⟨hi, by simp [List.getD, hi, h.1], h.2⟩

theorem cond_dec {α : Type} {c : Prop} [Decidable c] {a b : α} (h : c) : (bif decide c then a else b) = a := by rw [decide_eq_true h]; rfl
theorem cond_not {α : Type} {c : Prop} [Decidable c] {a b : α} (h : ¬ c) : (bif decide c then a else b) = b := by rw [decide_eq_false h]; rfl
theorem part_length {l : List (List Ct)} {a b : Nat} (h : b ≤ l.length) : (partOf l (a : Int) (b : Int)).length = b - a := by
  simp [partOf]; omega
theorem col_cons_at {x0 : List (List Ct)} {p : Nat} (hp : p < x0.length) : (col x0).drop p = (rd x0 p 0).int :: (col x0).drop (p + 1) := by
  have hp' : p < (col x0).length := by rw [col_length]; exact hp
  rw [List.drop_eq_getElem_cons hp', rd_col]; simp [List.getD, hp']
theorem rd_app_left {a b : List (List Ct)} {i j : Nat} (h : i < a.length) : rd (a ++ b) i j = rd a i j := by
  unfold rd
  rw [List.getD_eq_getElem?_getD (l := a ++ b), List.getD_eq_getElem?_getD (l := a), List.getElem?_append_left h]
theorem rd_app_last {a : List (List Ct)} {r : List Ct} {i j : Nat} (h : i = a.length) : rd (a ++ [r]) i j = r.getD j (.i 0) := by
  unfold rd
  rw [List.getD_eq_getElem?_getD (l := a ++ [r]), List.getElem?_append_right (by omega)]
  simp [h]
end Go.Proofs.Ythgneojhhocflaa
