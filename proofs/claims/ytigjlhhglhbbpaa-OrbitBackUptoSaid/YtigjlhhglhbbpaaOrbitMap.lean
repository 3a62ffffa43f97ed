/- Keys that are turned one by one, and round: plain laws of loops over rows. No condition. -/
import Derived.Test.YtigjlhhglhbbpaaSortT
set_option linter.unusedVariables false
set_option linter.unusedSimpArgs false
namespace Go.Proofs.Ytigjlhhglhbbpaa
open Go.RowKit

def mapI (f : Nat → K4 → K4) : Nat → List K4 → List K4
  | _, [] => []
  | k, x :: l => f k x :: mapI f (k + 1) l
theorem mapI_length {f : Nat → K4 → K4} : ∀ {l : List K4} {k : Nat}, (mapI f k l).length = l.length := by
  intro l
  induction l with
  | nil => intro k; rfl
  | cons x l ih => intro k; simp [mapI, ih]
theorem mapI_get {f : Nat → K4 → K4} : ∀ {l : List K4} {k i : Nat}, (mapI f k l)[i]? = (l[i]?).map (f (k + i)) := by
  intro l
  induction l with
  | nil => intro k i; simp [mapI]
  | cons x l ih =>
    intro k i
    cases i with
    | zero => simp [mapI]
    | succ i => simp only [mapI, List.getElem?_cons_succ, ih]; rw [show k + 1 + i = k + (i + 1) by omega]
theorem map_loop {step : Int × List (List Ct) → Option ((Int × List (List Ct)) ⊕ (Int × List (List Ct)))} {f : Nat → K4 → K4} {n : Nat}
    (hin : ∀ (k : Nat) (l : List (List Ct)) (x : K4) (A B : List K4), k = A.length → kOf l = A ++ x :: B → l.length = n → k < n → ∃ l', step ((k : Int), l) = some (.inl (((k + 1 : Nat) : Int), l')) ∧ kOf l' = A ++ f k x :: B)
    (hout : ∀ l : List (List Ct), l.length = n → step ((n : Int), l) = some (.inr ((n : Int), l))) :
    ∀ (B A : List K4) (l : List (List Ct)) (fuel : Nat), kOf l = A ++ B → A.length + B.length = n → B.length < fuel → ∃ r, iter step fuel ((A.length : Int), l) = some ((n : Int), r) ∧ kOf r = A ++ mapI f A.length B := by
  intro B
  induction B with
  | nil =>
    intro A l fuel h hn hf
    obtain ⟨fuel, rfl⟩ : ∃ k, fuel = k + 1 := ⟨fuel - 1, by omega⟩
    obtain rfl : A.length = n := by simpa using hn
    exact ⟨l, iter_inr (hout l (by rw [← kOf_length (l := l), h]; simp)), by simpa [mapI] using h⟩
  | cons x B ih =>
    intro A l fuel h hn hf
    obtain ⟨fuel, rfl⟩ : ∃ k, fuel = k + 1 := ⟨fuel - 1, by omega⟩
    simp only [List.length_cons] at hn hf
    obtain ⟨l', h1, h2⟩ := hin A.length l x A B rfl h (by rw [← kOf_length (l := l), h]; simp; omega) (by omega)
    obtain ⟨r, h3, h4⟩ := ih (A ++ [f A.length x]) l' fuel (by rw [h2]; simp) (by simp; omega) (by omega)
    rw [List.length_append, List.length_singleton] at h3 h4
    exact ⟨r, by rw [iter_inl h1]; exact h3, by rw [h4]; simp [mapI]⟩
/-- Rows that are laid one behind the other. -/
theorem kOf_tab {g : Nat → List Ct} {f : Nat → K4 → K4} {l : List (List Ct)} (h : ∀ k, k < l.length → kOf [g k] = [f k ((rd l k 0).int, (rd l k 1).int, (rd l k 2).int, (rd l k 3).int)]) : kOf (tab g l.length) = mapI f 0 (kOf l) := by
  apply List.ext_getElem?
  intro i
  rw [mapI_get, Nat.zero_add]
  by_cases hi : i < l.length
  · rw [kOf_rd (by rw [tab_length]; exact hi), kOf_rd hi]
    have := h i hi
    simp only [kOf, List.map_cons, List.map_nil, List.cons.injEq, and_true] at this
    rw [rd_tab hi, rd_tab hi, rd_tab hi, rd_tab hi, this]
    rfl
  · rw [List.getElem?_eq_none (by rw [kOf_length, tab_length]; omega), List.getElem?_eq_none (by rw [kOf_length]; omega)]
    rfl
theorem kOf_tab_rev {g : Nat → List Ct} {f : Nat → K4 → K4} {l : List (List Ct)} (h : ∀ k, k < l.length → kOf [g k] = [f k ((rd l k 0).int, (rd l k 1).int, (rd l k 2).int, (rd l k 3).int)]) : kOf (tab (fun k => g (l.length - 1 - k)) l.length) = (mapI f 0 (kOf l)).reverse := by
  rw [← kOf_tab h]
  apply List.ext_getElem?
  intro i
  by_cases hi : i < l.length
  · rw [List.getElem?_reverse (by rw [kOf_length, tab_length]; exact hi), kOf_rd (by rw [tab_length]; exact hi), kOf_length, tab_length, kOf_rd (by rw [tab_length]; omega)]
    rw [rd_tab hi, rd_tab hi, rd_tab hi, rd_tab hi, rd_tab (by omega), rd_tab (by omega), rd_tab (by omega), rd_tab (by omega)]
  · rw [List.getElem?_eq_none (by rw [kOf_length, tab_length]; omega), List.getElem?_eq_none (by rw [List.length_reverse, kOf_length, tab_length]; omega)]
theorem kOf_ext {a b : List (List Ct)} {n : Nat} (ha : a.length = n) (hb : b.length = n) (h : ∀ i, i < n → ∀ j, j < 4 → (rd a i j).int = (rd b i j).int) : kOf a = kOf b := by
  apply List.ext_getElem?
  intro i
  by_cases hi : i < n
  · rw [kOf_rd (by omega), kOf_rd (by omega), h i hi 0 (by omega), h i hi 1 (by omega), h i hi 2 (by omega), h i hi 3 (by omega)]
  · rw [List.getElem?_eq_none (by rw [kOf_length]; omega), List.getElem?_eq_none (by rw [kOf_length]; omega)]
theorem srtU_id : ∀ {l M : List K4}, Strict (M ++ l) → l.foldl (fun M x => insU x M) M = M ++ l := by
  intro l
  induction l with
  | nil => intro M _; simp
  | cons x l ih =>
    intro M h
    have h' := List.pairwise_append.1 h
    have e : ∀ {B : List K4}, (∀ z ∈ B, z.1 < x.1) → insU x B = B ++ [x] := by
      intro B
      induction B with
      | nil => intro _; rfl
      | cons y B ihB =>
        intro hB
        have := hB y (by simp)
        simp only [insU]
        rw [if_neg (by omega), if_neg (by omega), ihB fun z hz => hB z (by simp [hz])]
        rfl
    rw [List.foldl_cons, e fun z hz => h'.2.2 z hz x (by simp), ih (by simpa using h)]
    simp
theorem srtU_strict_id {l : List K4} (h : Strict l) : srtU l = l := by
  unfold srtU; rw [srtU_id (by simpa using h)]; simp
end Go.Proofs.Ytigjlhhglhbbpaa
