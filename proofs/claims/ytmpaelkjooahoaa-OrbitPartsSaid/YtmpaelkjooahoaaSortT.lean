/- Keys, sorted by their times, of those of one time the last one: two ways. Plain Lean. No condition. -/
import Derived.Test.YtmpaelkjooahoaaLoopA
set_option linter.unusedVariables false
set_option linter.unusedSimpArgs false
namespace Go.Proofs.Ytmpaelkjooahoaa
open Go.RowKit

abbrev K4 := Int × Int × Int × Int
/-- A key goes behind those that aren't later. -/
def insA (x : K4) : List K4 → List K4
  | [] => [x]
  | y :: A => if x.1 < y.1 then x :: y :: A else y :: insA x A
/-- The same, from the end on. -/
def insR (x : K4) : List K4 → List K4
  | [] => [x]
  | y :: S => if x.1 < y.1 then y :: insR x S else x :: y :: S
/-- Of those of one time the last one. -/
def dd : List K4 → List K4
  | [] => []
  | [x] => [x]
  | x :: y :: r => if y.1 = x.1 then dd (y :: r) else x :: dd (y :: r)
/-- A key into those of unlike times. -/
def insU (x : K4) : List K4 → List K4
  | [] => [x]
  | m :: M => if m.1 = x.1 then x :: M else if x.1 < m.1 then x :: m :: M else m :: insU x M
abbrev Asc (A : List K4) : Prop := A.Pairwise fun a b => a.1 ≤ b.1
abbrev Strict (A : List K4) : Prop := A.Pairwise fun a b => a.1 < b.1
theorem insA_mem {x z : K4} : ∀ {A : List K4}, z ∈ insA x A ↔ z = x ∨ z ∈ A := by
  intro A
  induction A with
  | nil => simp [insA]
  | cons y A ih =>
    simp only [insA]
    split
    · simp
    · simp only [List.mem_cons, ih]; exact ⟨fun h => by rcases h with h | h | h <;> simp [h], fun h => by rcases h with h | h | h <;> simp [h]⟩
theorem insA_asc {x : K4} : ∀ {A : List K4}, Asc A → Asc (insA x A) := by
  intro A
  induction A with
  | nil => intro _; simp [insA, Asc]
  | cons y A ih =>
    intro h
    have h1 := List.pairwise_cons.1 h
    simp only [insA]
    split
    · rename_i hx
      refine List.pairwise_cons.2 ⟨fun z hz => ?_, h⟩
      rcases List.mem_cons.1 hz with rfl | hz
      · omega
      · have := h1.1 z hz; omega
    · rename_i hx
      refine List.pairwise_cons.2 ⟨fun z hz => ?_, ih h1.2⟩
      rcases insA_mem.1 hz with rfl | hz
      · omega
      · exact h1.1 z hz
theorem insA_length {x : K4} : ∀ {A : List K4}, (insA x A).length = A.length + 1 := by
  intro A
  induction A with
  | nil => rfl
  | cons y A ih => simp only [insA]; split <;> simp [ih]
theorem insA_end {x : K4} : ∀ {B : List K4}, (∀ z ∈ B, ¬ x.1 < z.1) → insA x B = B ++ [x] := by
  intro B
  induction B with
  | nil => intro _; rfl
  | cons y B ih =>
    intro h
    simp only [insA]
    rw [if_neg (h y (by simp)), ih fun z hz => h z (by simp [hz])]
    rfl
theorem insA_snoc {x y : K4} (h : x.1 < y.1) : ∀ {A : List K4}, insA x (A ++ [y]) = insA x A ++ [y] := by
  intro A
  induction A with
  | nil => simp [insA, h]
  | cons z A ih => simp only [List.cons_append, insA, ih]; split <;> rfl
theorem insR_is {x : K4} : ∀ {S : List K4}, Asc S.reverse → (insR x S).reverse = insA x S.reverse := by
  intro S
  induction S with
  | nil => intro _; rfl
  | cons y S ih =>
    intro h
    rw [List.reverse_cons] at h ⊢
    have h' := List.pairwise_append.1 h
    simp only [insR]
    split
    · rename_i hx
      rw [List.reverse_cons, ih h'.1, insA_snoc hx]
    · rename_i hx
      rw [List.reverse_cons, List.reverse_cons, insA_end]
      intro z hz
      rcases List.mem_append.1 hz with hz | hz
      · have := h'.2.2 z hz y (by simp); omega
      · rw [List.mem_singleton.1 hz]; exact hx
theorem dd_head : ∀ {B : List K4} {y : K4}, ∃ h M, dd (y :: B) = h :: M ∧ h.1 = y.1 := by
  intro B
  induction B with
  | nil => intro y; exact ⟨y, [], rfl, rfl⟩
  | cons z B ih =>
    intro y
    obtain ⟨h, M, h1, h2⟩ := ih (y := z)
    simp only [dd]
    split
    · rename_i hz; exact ⟨h, M, h1, by omega⟩
    · exact ⟨y, _, rfl, rfl⟩
theorem insU_head {x h : K4} {M : List K4} (hx : x.1 < h.1) : insU x (h :: M) = x :: h :: M := by
  simp only [insU]
  rw [if_neg (by omega), if_pos hx]
/-- Both ways agree, key by key. -/
theorem dd_ins {x : K4} : ∀ {A : List K4}, Asc A → dd (insA x A) = insU x (dd A) := by
  intro A
  induction A with
  | nil => intro _; rfl
  | cons y B ih =>
    intro hA
    have hB := (List.pairwise_cons.1 hA).2
    have hy := (List.pairwise_cons.1 hA).1
    by_cases hx : x.1 < y.1
    · obtain ⟨h, M, h1, h2⟩ := dd_head (B := B) (y := y)
      simp only [insA, if_pos hx]
      rw [show dd (x :: y :: B) = x :: dd (y :: B) from by simp only [dd]; rw [if_neg (by omega)], h1, insU_head (by omega)]
    · simp only [insA, if_neg hx]
      cases B with
      | nil =>
        simp only [insA, dd, insU]
        by_cases e : x.1 = y.1
        · rw [if_pos e, if_pos e.symm]
        · rw [if_neg e, if_neg (fun k => e k.symm), if_neg hx]
      | cons z C =>
        have hz := hy z (by simp)
        have IH := ih hB
        by_cases e : z.1 = y.1
        · have hxz : ¬ x.1 < z.1 := by omega
          rw [show dd (y :: z :: C) = dd (z :: C) from by simp only [dd]; rw [if_pos e], ← IH]
          simp only [insA, if_neg hxz]
          simp only [dd]
          rw [if_pos e]
        · rw [show dd (y :: z :: C) = y :: dd (z :: C) from by simp only [dd]; rw [if_neg e]]
          by_cases hxz : x.1 < z.1
          · have IH' := IH
            simp only [insA, if_pos hxz] at IH' ⊢
            by_cases ex : x.1 = y.1
            · rw [show dd (y :: x :: z :: C) = dd (x :: z :: C) from by simp only [dd]; rw [if_pos ex]]
              rw [show dd (x :: z :: C) = x :: dd (z :: C) from by simp only [dd]; rw [if_neg (by omega)]]
              simp only [insU]
              rw [if_pos ex.symm]
            · rw [show dd (y :: x :: z :: C) = y :: dd (x :: z :: C) from by simp only [dd]; rw [if_neg ex], IH']
              simp only [insU]
              rw [if_neg (fun k => ex k.symm), if_neg hx]
          · have IH' := IH
            simp only [insA, if_neg hxz] at IH' ⊢
            rw [show dd (y :: z :: insA x C) = y :: dd (z :: insA x C) from by simp only [dd]; rw [if_neg e], IH']
            simp only [insU]
            rw [if_neg (by omega), if_neg hx]
theorem insU_mem {x z : K4} : ∀ {M : List K4}, z ∈ insU x M → z = x ∨ z ∈ M := by
  intro M
  induction M with
  | nil => intro h; left; simpa [insU] using h
  | cons m M ih =>
    intro h
    simp only [insU] at h
    split at h
    · rcases List.mem_cons.1 h with rfl | h
      · exact .inl rfl
      · exact .inr (by simp [h])
    · split at h
      · rcases List.mem_cons.1 h with rfl | h
        · exact .inl rfl
        · exact .inr h
      · rcases List.mem_cons.1 h with rfl | h
        · exact .inr (by simp)
        · rcases ih h with h | h
          · exact .inl h
          · exact .inr (by simp [h])
theorem insU_strict {x : K4} : ∀ {M : List K4}, Strict M → Strict (insU x M) := by
  intro M
  induction M with
  | nil => intro _; simp [insU, Strict]
  | cons m M ih =>
    intro h
    have h1 := List.pairwise_cons.1 h
    simp only [insU]
    split
    · rename_i e
      exact List.pairwise_cons.2 ⟨fun z hz => by have := h1.1 z hz; omega, h1.2⟩
    · split
      · rename_i hx
        refine List.pairwise_cons.2 ⟨fun z hz => ?_, h⟩
        rcases List.mem_cons.1 hz with rfl | hz
        · exact hx
        · have := h1.1 z hz; omega
      · refine List.pairwise_cons.2 ⟨fun z hz => ?_, ih h1.2⟩
        rcases insU_mem hz with rfl | hz
        · omega
        · exact h1.1 z hz
theorem insU_length {x : K4} : ∀ {M : List K4}, (insU x M).length ≤ M.length + 1 := by
  intro M
  induction M with
  | nil => simp [insU]
  | cons m M ih =>
    simp only [insU]
    split
    · simp
    split
    · simp
    · simp; omega
/-- All keys, the last one first. -/
def srtA (l : List K4) : List K4 := l.foldl (fun A x => insA x A) []
def srtU (l : List K4) : List K4 := l.foldl (fun M x => insU x M) []
theorem srtA_asc (l : List K4) : Asc (srtA l) := by
  suffices h : ∀ (l A : List K4), Asc A → Asc (l.foldl (fun A x => insA x A) A) from h l [] List.Pairwise.nil
  intro l
  induction l with
  | nil => intro A h; exact h
  | cons x l ih => intro A h; exact ih _ (insA_asc h)
theorem srt_both (l : List K4) : dd (srtA l) = srtU l := by
  suffices h : ∀ (l A M : List K4), Asc A → dd A = M → dd (l.foldl (fun A x => insA x A) A) = l.foldl (fun M x => insU x M) M from h l [] [] List.Pairwise.nil rfl
  intro l
  induction l with
  | nil => intro A M _ h; exact h
  | cons x l ih => intro A M hA h; exact ih _ _ (insA_asc hA) (by rw [dd_ins hA, h])
theorem srtA_length (l : List K4) : (srtA l).length = l.length := by
  suffices h : ∀ (l A : List K4), (l.foldl (fun A x => insA x A) A).length = A.length + l.length from by simpa [srtA] using h l []
  intro l
  induction l with
  | nil => intro A; rfl
  | cons x l ih => intro A; simp only [List.foldl_cons, List.length_cons]; rw [ih, insA_length]; omega
theorem dd_length : ∀ (A : List K4), (dd A).length ≤ A.length := by
  intro A
  induction A with
  | nil => exact Nat.le_refl _
  | cons x A ih =>
    cases A with
    | nil => exact Nat.le_refl _
    | cons y A =>
      simp only [dd]
      split
      · have := ih; simp only [List.length_cons] at this ⊢; omega
      · simp only [List.length_cons] at ih ⊢; omega

/-- The keys in rows. -/
def kOf (l : List (List Ct)) : List K4 := l.map fun r => ((r.getD 0 (.i 0)).int, (r.getD 1 (.i 0)).int, (r.getD 2 (.i 0)).int, (r.getD 3 (.i 0)).int)
theorem kOf_length {l : List (List Ct)} : (kOf l).length = l.length := by simp [kOf]
theorem kOf_app {a b : List (List Ct)} : kOf (a ++ b) = kOf a ++ kOf b := by simp [kOf]
theorem kOf_one {a b c d : Ct} : kOf [[a, b, c, d]] = [(a.int, b.int, c.int, d.int)] := rfl
theorem kOf_at {l : List (List Ct)} {A B : List K4} {x : K4} (h : kOf l = A ++ x :: B) : (rd l A.length 0).int = x.1 ∧ (rd l A.length 1).int = x.2.1 ∧ (rd l A.length 2).int = x.2.2.1 ∧ (rd l A.length 3).int = x.2.2.2 ∧ A.length < l.length := by
  have hl : A.length < l.length := by rw [← kOf_length (l := l), h]; simp
  have e : (kOf l)[A.length]? = some x := by rw [h]; simp
  simp only [kOf, List.getElem?_map, List.getElem?_eq_getElem hl, Option.map_some, Option.some.injEq] at e
  have r : ∀ j, rd l A.length j = (l[A.length]).getD j (.i 0) := fun j => by simp [rd, List.getD, hl]
  refine ⟨?_, ?_, ?_, ?_, hl⟩ <;> rw [r, ← e]
theorem kOf_rd {l : List (List Ct)} {i : Nat} (h : i < l.length) : (kOf l)[i]? = some ((rd l i 0).int, (rd l i 1).int, (rd l i 2).int, (rd l i 3).int) := by
  have r : ∀ j, rd l i j = (l[i]).getD j (.i 0) := fun j => by simp [rd, List.getD, h]
  simp only [kOf, List.getElem?_map, List.getElem?_eq_getElem h, Option.map_some, r]
theorem kOf_same {a b : List (List Ct)} (h : kOf a = kOf b) : a.length = b.length ∧ ∀ i, i < b.length → (rd a i 0).int = (rd b i 0).int ∧ (rd a i 1).int = (rd b i 1).int ∧ (rd a i 2).int = (rd b i 2).int ∧ (rd a i 3).int = (rd b i 3).int := by
  have hl : a.length = b.length := by rw [← kOf_length (l := a), h, kOf_length]
  refine ⟨hl, fun i hi => ?_⟩
  have e1 := kOf_rd (l := a) (i := i) (by omega)
  have e2 := kOf_rd (l := b) hi
  rw [h, e2] at e1
  simp only [Option.some.injEq, Prod.mk.injEq] at e1
  exact ⟨e1.1.symm, e1.2.1.symm, e1.2.2.1.symm, e1.2.2.2.symm⟩
theorem kOf_set {l : List (List Ct)} {i : Nat} {r : List Ct} : kOf (l.set i r) = (kOf l).set i ((r.getD 0 (.i 0)).int, (r.getD 1 (.i 0)).int, (r.getD 2 (.i 0)).int, (r.getD 3 (.i 0)).int) := by simp [kOf, List.map_set]
theorem upd4 {a b c d : Int} {r : List Ct} : updRow 4 0 [.i a, .i b, .i c, .i d] r = [.i a, .i b, .i c, .i d] := rfl
end Go.Proofs.Ytmpaelkjooahoaa
