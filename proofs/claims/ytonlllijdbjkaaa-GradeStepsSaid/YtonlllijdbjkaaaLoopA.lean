/- Iter, Col, Loop, laid together. No condition. -/
import Derived.Test.YtonlllijdbjkaaaEngE
import Derived.Test.YtonlllijdbjkaaaNum
/- Loops in closed form: plain laws. No condition. -/
set_option linter.unusedVariables false
namespace Go.Proofs.Ytonlllijdbjkaaa

/-- n rounds. -/
def nfold {A : Type} (f : Nat → A → A) : Nat → A → A
  | 0, a => a
  | n + 1, a => f n (nfold f n a)
theorem nfold_congr {A : Type} {f g : Nat → A → A} {n : Nat} (h : ∀ k, k < n → ∀ a, f k a = g k a) (a : A) : nfold f n a = nfold g n a := by
  induction n with
  | zero => rfl
  | succ n ih => simp only [nfold]; rw [ih fun k hk => h k (by omega), h n (by omega)]
/-- Two loops, side by side. -/
theorem nfold_rel {A B : Type} {f : Nat → A → A} {g : Nat → B → B} (Q : Nat → A → B → Prop) {n : Nat} {a : A} {b : B} (h0 : Q 0 a b) (hs : ∀ k, k < n → ∀ a b, Q k a b → Q (k + 1) (f k a) (g k b)) : Q n (nfold f n a) (nfold g n b) := by
  induction n with
  | zero => exact h0
  | succ n ih => exact hs n (by omega) _ _ (ih fun k hk => hs k (by omega))
theorem nfold_inv {A : Type} {f : Nat → A → A} (Q : Nat → A → Prop) {n : Nat} {a : A} (h0 : Q 0 a) (hs : ∀ k, k < n → ∀ a, Q k a → Q (k + 1) (f k a)) : Q n (nfold f n a) := by
  induction n with
  | zero => exact h0
  | succ n ih => exact hs n (by omega) _ (ih fun k hk => hs k (by omega))
/-- Rounds k .. n, out at once where a round says so. -/
def rounds {A R : Type} (f : Nat → A → A ⊕ R) (out : A → R) : Nat → Nat → A → R
  | 0, _, a => out a
  | m + 1, k, a => match f k a with
    | .inl a' => rounds f out m (k + 1) a'
    | .inr r => r
theorem iter_range_from {A V R : Type} {step : V → Option (V ⊕ R)} (S : Nat → A → V) (Inv : Nat → A → Prop) {f : Nat → A → A} {out : A → R} {n : Nat}
    (hin : ∀ k, k < n → ∀ a, Inv k a → step (S k a) = some (.inl (S (k + 1) (f k a))) ∧ Inv (k + 1) (f k a)) (hout : ∀ a, Inv n a → step (S n a) = some (.inr (out a))) (a0 : A) (h0 : Inv 0 a0) :
    ∀ (d k m : Nat), k + d = n → d < m → Inv k (nfold f k a0) → iter step m (S k (nfold f k a0)) = some (out (nfold f n a0)) := by
  intro d
  induction d with
  | zero =>
    intro k m hk hm hi
    obtain ⟨m, rfl⟩ : ∃ m', m = m' + 1 := ⟨m - 1, by omega⟩
    obtain rfl : k = n := by omega
    simp [iter, hout _ hi]
  | succ d ih =>
    intro k m hk hm hi
    obtain ⟨m, rfl⟩ : ∃ m', m = m' + 1 := ⟨m - 1, by omega⟩
    obtain ⟨h1, h2⟩ := hin k (by omega) _ hi
    simp only [iter, h1]
    exact ih (k + 1) m (by omega) (by omega) h2
/-- A loop that counts, in closed form. -/
theorem iter_range {A V R : Type} {step : V → Option (V ⊕ R)} (S : Nat → A → V) (Inv : Nat → A → Prop) {f : Nat → A → A} {out : A → R} {n m : Nat} {v : V} {a0 : A} (hv : v = S 0 a0) (hm : n < m)
    (hin : ∀ k, k < n → ∀ a, Inv k a → step (S k a) = some (.inl (S (k + 1) (f k a))) ∧ Inv (k + 1) (f k a)) (hout : ∀ a, Inv n a → step (S n a) = some (.inr (out a))) (h0 : Inv 0 a0) :
    iter step m v = some (out (nfold f n a0)) := by
  rw [hv]; exact iter_range_from S Inv hin hout a0 h0 n 0 m (by omega) hm h0
theorem iter_rounds {A V R : Type} {step : V → Option (V ⊕ R)} (S : Nat → A → V) (Inv : Nat → A → Prop) {f : Nat → A → A ⊕ R} {out : A → R} {n : Nat}
    (hin : ∀ k, k < n → ∀ a, Inv k a → (∀ a', f k a = .inl a' → step (S k a) = some (.inl (S (k + 1) a')) ∧ Inv (k + 1) a') ∧ ∀ r, f k a = .inr r → step (S k a) = some (.inr r)) (hout : ∀ a, Inv n a → step (S n a) = some (.inr (out a))) :
    ∀ (d k m : Nat) (a : A), k + d = n → d < m → Inv k a → iter step m (S k a) = some (rounds f out d k a) := by
  intro d
  induction d with
  | zero =>
    intro k m a hk hm hi
    obtain ⟨m, rfl⟩ : ∃ m', m = m' + 1 := ⟨m - 1, by omega⟩
    obtain rfl : k = n := by omega
    simp [iter, hout _ hi, rounds]
  | succ d ih =>
    intro k m a hk hm hi
    obtain ⟨m, rfl⟩ : ∃ m', m = m' + 1 := ⟨m - 1, by omega⟩
    obtain ⟨h1, h2⟩ := hin k (by omega) _ hi
    simp only [iter, rounds]
    cases hf : f k a with
    | inl a' => obtain ⟨h3, h4⟩ := h1 a' hf; simp only [h3]; exact ih (k + 1) m a' (by omega) (by omega) h4
    | inr r => simp only [h2 r hf]
theorem wrap_eq (n : Int) : IntKind.i64.wrap n = RowKit.wrap64 n := by
  simp only [IntKind.wrap, IntKind.bits, IntKind.signed, RowKit.wrap64, Bool.true_and]
  split <;> rename_i h <;> simp at h <;> omega
theorem wrap_in {n : Int} (h0 : -9223372036854775808 ≤ n) (h1 : n ≤ 9223372036854775807) : IntKind.i64.wrap n = n := by
  rw [wrap_eq]; exact wrap_of h0 h1
/-- A list of n rows. -/
def tab (f : Nat → List Ct) (n : Nat) : List (List Ct) := (List.range n).map f
theorem tab_zero (f : Nat → List Ct) : tab f 0 = [] := rfl
theorem tab_succ (f : Nat → List Ct) (n : Nat) : tab f n ++ [f n] = tab f (n + 1) := by simp [tab, List.range_succ]
theorem tab_length (f : Nat → List Ct) (n : Nat) : (tab f n).length = n := by simp [tab]
theorem rd_tab {f : Nat → List Ct} {n j c : Nat} (h : j < n) : rd (tab f n) j c = (f j).getD c (.i 0) := by
  simp [rd, tab, h]
theorem rd_head {r : List Ct} {l : List (List Ct)} {c : Nat} : rd (r :: l) 0 c = r.getD c (.i 0) := rfl
theorem rd_tail {r : List Ct} {l : List (List Ct)} {j c : Nat} : rd (r :: l) (j + 1) c = rd l j c := rfl
theorem nfold_tab {F : Nat → List (List Ct) → List (List Ct)} {g : Nat → List Ct} (h : ∀ k a, F k a = a ++ [g k]) : ∀ n, nfold F n [] = tab g n := by
  intro n
  induction n with
  | zero => rfl
  | succ n ih => simp only [nfold, ih, h, tab_succ]
theorem rd_part0 {l : List (List Ct)} {n : Nat} {j c : Nat} (h : j < n) : rd (partOf l (0 : Int) (n : Int)) j c = rd l j c := by
  simp [rd, partOf, List.getD_eq_getElem?_getD, h]
theorem rest_length {l : List (List Ct)} : (partOf l (1 : Int) (l.length : Int)).length = l.length - 1 := by
  simp [partOf]
theorem rd_rest {l : List (List Ct)} {j c : Nat} (h : j < l.length - 1) : rd (partOf l (1 : Int) (l.length : Int)) j c = rd l (j + 1) c := by
  have : (1 : Int).toNat = 1 := rfl
  simp only [rd, partOf, List.getD_eq_getElem?_getD, List.getElem?_take, List.getElem?_drop, this, Int.toNat_natCast]
  rw [if_pos h, Nat.add_comm]
theorem cond_some {A : Type} {c : Bool} {a b : A} : (bif c then some a else some b) = some (bif c then a else b) := by cases c <;> rfl
end Go.Proofs.Ytonlllijdbjkaaa

/- The numbers of rows of one cell; rounds of a loop, one by one. No condition. -/
set_option linter.unusedVariables false
set_option linter.unusedSimpArgs false
namespace Go.Proofs.Ytonlllijdbjkaaa
open Go.RowKit

theorem iter_inl {V R : Type} {step : V → Option (V ⊕ R)} {n : Nat} {v v' : V} (h : step v = some (.inl v')) : iter step (n + 1) v = iter step n v' := by simp only [iter, h]
theorem iter_inr {V R : Type} {step : V → Option (V ⊕ R)} {n : Nat} {v : V} {r : R} (h : step v = some (.inr r)) : iter step (n + 1) v = some r := by simp only [iter, h]
theorem wrap_u8 {n : Int} (h0 : 0 ≤ n) (h1 : n < 256) : IntKind.u8.wrap n = n := by
  simp [IntKind.wrap, IntKind.bits, IntKind.signed]; omega

/-- The numbers of the rows. -/
def col (l : List (List Ct)) : List Int := l.map fun r => (r.getD 0 (.i 0)).int
theorem col_length {l : List (List Ct)} : (col l).length = l.length := by simp [col]
theorem rd_col {l : List (List Ct)} {i : Nat} : (rd l i 0).int = (col l).getD i 0 := by
  unfold rd col
  by_cases h : i < l.length
  · simp [List.getD, h]
  · simp [List.getD, h]; rfl
theorem col_app {a b : List (List Ct)} : col (a ++ b) = col a ++ col b := by simp [col]
theorem col_nil : col [] = [] := rfl
theorem col_cons {c : Ct} {l : List (List Ct)} : col ([c] :: l) = c.int :: col l := rfl
theorem col_part {l : List (List Ct)} {a b : Int} : col (partOf l a b) = ((col l).drop a.toNat).take (b.toNat - a.toNat) := by simp [col, partOf, List.map_take, List.map_drop]
theorem strOf_col {a b : List (List Ct)} (h : col a = col b) : strOf a = strOf b := by unfold strOf; unfold col at h; rw [h]
theorem drop_nil {s : List Int} {i : Nat} (h : s.drop i = []) : s.length ≤ i := by simpa using h
theorem drop_cons {s : List Int} {i : Nat} {y : Int} {t : List Int} (h : s.drop i = y :: t) : i < s.length ∧ s.getD i 0 = y ∧ s.drop (i + 1) = t := by
  have hi : i < s.length := by
    rcases Nat.lt_or_ge i s.length with h' | h'
    · exact h'
    · rw [List.drop_eq_nil_of_le h'] at h; cases h
  rw [List.drop_eq_getElem_cons hi] at h
  simp only [List.cons.injEq] at h
  exact ⟨hi, by simp [List.getD, hi, h.1], h.2⟩

theorem cond_dec {α : Type} {c : Prop} [Decidable c] {a b : α} (h : c) : (bif decide c then a else b) = a := by rw [decide_eq_true h]; rfl
theorem cond_not {α : Type} {c : Prop} [Decidable c] {a b : α} (h : ¬ c) : (bif decide c then a else b) = b := by rw [decide_eq_false h]; rfl
theorem part_length {l : List (List Ct)} {a b : Nat} (h : b ≤ l.length) : (partOf l (a : Int) (b : Int)).length = b - a := by
  simp [partOf]; omega
theorem col_cons_at {x0 : List (List Ct)} {p : Nat} (hp : p < x0.length) : (col x0).drop p = (rd x0 p 0).int :: (col x0).drop (p + 1) := by
  have hp' : p < (col x0).length := by rw [col_length]; exact hp
  rw [List.drop_eq_getElem_cons hp', rd_col]; simp [List.getD, hp']
theorem rd_app_left {a b : List (List Ct)} {i j : Nat} (h : i < a.length) : rd (a ++ b) i j = rd a i j := by
  unfold rd
  rw [List.getD_eq_getElem?_getD (l := a ++ b), List.getD_eq_getElem?_getD (l := a), List.getElem?_append_left h]
theorem rd_app_last {a : List (List Ct)} {r : List Ct} {i j : Nat} (h : i = a.length) : rd (a ++ [r]) i j = r.getD j (.i 0) := by
  unfold rd
  rw [List.getD_eq_getElem?_getD (l := a ++ [r]), List.getElem?_append_right (by omega)]
  simp [h]
end Go.Proofs.Ytonlllijdbjkaaa

/- Loops as they come: copies, searches, choices. No condition. -/
set_option linter.unusedVariables false
set_option linter.unusedSimpArgs false
namespace Go.Proofs.Ytonlllijdbjkaaa
open Go.RowKit

theorem iter_run_from {V R : Type} {step : V → Option (V ⊕ R)} (S : Nat → V) {n : Nat} {r : R} (hin : ∀ k, k < n → step (S k) = some (.inl (S (k + 1)))) (hout : step (S n) = some (.inr r)) : ∀ (d k m : Nat), k + d = n → d < m → iter step m (S k) = some r := by
  intro d
  induction d with
  | zero =>
    intro k m hk hm
    obtain ⟨m, rfl⟩ : ∃ m', m = m' + 1 := ⟨m - 1, by omega⟩
    obtain rfl : k = n := by omega
    exact iter_inr hout
  | succ d ih =>
    intro k m hk hm
    obtain ⟨m, rfl⟩ : ∃ m', m = m' + 1 := ⟨m - 1, by omega⟩
    rw [iter_inl (hin k (by omega))]
    exact ih (k + 1) m (by omega) (by omega)
/-- A loop that goes through its places one by one. -/
theorem iter_run {V R : Type} {step : V → Option (V ⊕ R)} (S : Nat → V) {n m : Nat} {r : R} {v : V} (hv : v = S 0) (hin : ∀ k, k < n → step (S k) = some (.inl (S (k + 1)))) (hout : step (S n) = some (.inr r)) (hm : n < m) : iter step m v = some r := by
  rw [hv]; exact iter_run_from S hin hout n 0 m (by omega) hm
theorem iter_run2_from {V R : Type} {step : V → Option (V ⊕ R)} (S : Nat → V) {n : Nat} {r : R} (hin : ∀ k, k < n → step (S k) = some (.inl (S (k + 1)))) (hout : step (S n) = some (.inr r)) : ∀ (d k m : Nat), k + d = n → d < m → iter step m (S k) = some r := iter_run_from S hin hout
theorem wrap_succ {k : Nat} (h : k < 9223372036854775807) : IntKind.i64.wrap ((k : Int) + 1) = ((k + 1 : Nat) : Int) := by rw [wrap_in (by omega) (by omega)]; omega
/-- A search. -/
def findB (bad : Nat → Bool) : Nat → Nat → Option Nat
  | 0, _ => none
  | d + 1, k => bif bad k then some k else findB bad d (k + 1)
theorem findB_congr {f g : Nat → Bool} : ∀ {d k : Nat}, (∀ j, k ≤ j → j < k + d → f j = g j) → findB f d k = findB g d k := by
  intro d
  induction d with
  | zero => intro k _; rfl
  | succ d ih =>
    intro k h
    simp only [findB]
    rw [h k (Nat.le_refl _) (by omega), ih fun j h1 h2 => h j (by omega) (by omega)]
theorem findB_none {f : Nat → Bool} : ∀ {d k : Nat}, findB f d k = none ↔ ∀ j, k ≤ j → j < k + d → f j = false := by
  intro d
  induction d with
  | zero => intro k; exact ⟨fun _ j h1 h2 => by omega, fun _ => rfl⟩
  | succ d ih =>
    intro k
    simp only [findB]
    cases hf : f k with
    | true =>
      simp only [cond_true, reduceCtorEq, false_iff]
      intro h
      have := h k (Nat.le_refl _) (by omega)
      rw [hf] at this
      cases this
    | false =>
      simp only [cond_false, ih]
      constructor
      · intro h j h1 h2
        by_cases hj : j = k
        · subst hj; exact hf
        · exact h j (by omega) (by omega)
      · intro h j h1 h2
        exact h j (by omega) (by omega)
theorem findB_some {f : Nat → Bool} : ∀ {d k i : Nat}, findB f d k = some i → k ≤ i ∧ i < k + d ∧ f i = true ∧ ∀ j, k ≤ j → j < i → f j = false := by
  intro d
  induction d with
  | zero => intro k i h; cases h
  | succ d ih =>
    intro k i h
    simp only [findB] at h
    cases hf : f k with
    | true =>
      rw [hf] at h
      simp only [cond_true, Option.some.injEq] at h
      subst h
      exact ⟨Nat.le_refl _, by omega, hf, fun j h1 h2 => by omega⟩
    | false =>
      rw [hf] at h
      obtain ⟨h1, h2, h3, h4⟩ := ih h
      refine ⟨by omega, by omega, h3, fun j h5 h6 => ?_⟩
      by_cases hj : j = k
      · subst hj; exact hf
      · exact h4 j (by omega) h6
theorem iter_find_from {B : Type} {step : Int → Option (Int ⊕ (Int ⊕ B))} {n : Nat} {bad : Nat → Bool} {b : Nat → B} (hin : ∀ k, k < n → step (k : Int) = some (bif bad k then .inr (.inr (b k)) else .inl ((k + 1 : Nat) : Int))) (hout : step (n : Int) = some (.inr (.inl (n : Int)))) :
    ∀ (d k m : Nat), k + d = n → d < m → iter step m (k : Int) = some (match findB bad d k with | some i => .inr (b i) | none => .inl (n : Int)) := by
  intro d
  induction d with
  | zero =>
    intro k m hk hm
    obtain ⟨m, rfl⟩ : ∃ m', m = m' + 1 := ⟨m - 1, by omega⟩
    obtain rfl : k = n := by omega
    exact iter_inr hout
  | succ d ih =>
    intro k m hk hm
    obtain ⟨m, rfl⟩ : ∃ m', m = m' + 1 := ⟨m - 1, by omega⟩
    have h := hin k (by omega)
    simp only [findB]
    cases hb : bad k with
    | true => rw [hb] at h; exact iter_inr h
    | false => rw [hb] at h; rw [iter_inl h]; exact ih (k + 1) m (by omega) (by omega)
/-- A loop that leaves at the first bad one. -/
theorem iter_find {B : Type} {step : Int → Option (Int ⊕ (Int ⊕ B))} {n m : Nat} (bad : Nat → Bool) (b : Nat → B) (hin : ∀ k, k < n → step (k : Int) = some (bif bad k then .inr (.inr (b k)) else .inl ((k + 1 : Nat) : Int))) (hout : step (n : Int) = some (.inr (.inl (n : Int)))) (hm : n < m) :
    iter step m 0 = some (match findB bad n 0 with | some i => .inr (b i) | none => .inl (n : Int)) := iter_find_from hin hout n 0 m (by omega) hm
/-- Numbers that are chosen. -/
def filtR (c : Nat → Bool) : Nat → List (List Ct)
  | 0 => []
  | k + 1 => bif c k then filtR c k ++ [[.i k]] else filtR c k
theorem filtR_length {c : Nat → Bool} : ∀ {n : Nat}, (filtR c n).length ≤ n := by
  intro n
  induction n with
  | zero => simp [filtR]
  | succ n ih =>
    simp only [filtR]
    cases c n with
    | true => simp; omega
    | false => simp; omega
theorem filtR_congr {f g : Nat → Bool} : ∀ {n : Nat}, (∀ k, k < n → f k = g k) → filtR f n = filtR g n := by
  intro n
  induction n with
  | zero => intro _; rfl
  | succ n ih => intro h; simp only [filtR, h n (by omega), ih fun k hk => h k (by omega)]

theorem cond_decI {α : Type} {c : Prop} {i : Decidable c} {a b : α} (h : c) : (bif @decide c i then a else b) = a := by rw [decide_eq_true h]; rfl
theorem cond_notI {α : Type} {c : Prop} {i : Decidable c} {a b : α} (h : ¬ c) : (bif @decide c i then a else b) = b := by rw [decide_eq_false h]; rfl
theorem isSome_cond {α : Type} {c : Bool} {a b : Option α} : (bif c then a else b).isSome = bif c then a.isSome else b.isSome := by cases c <;> rfl
theorem cond_same {α : Type} {c : Bool} {a : α} : (bif c then a else a) = a := by cases c <;> rfl
theorem cond_false_l {c x : Bool} : (bif c then false else x) = (!c && x) := by cases c <;> rfl
theorem cond_false_r {c x : Bool} : (bif c then x else false) = (c && x) := by cases c <;> rfl
theorem getD_cond {α : Type} {c : Bool} {a b : Option α} {d : α} : (bif c then a else b).getD d = bif c then a.getD d else b.getD d := by cases c <;> rfl
theorem some_getD {α : Type} [Inhabited α] {o : Option α} (h : o.isSome = true) : o = some (o.getD default) := by cases o with | none => cases h | some v => rfl
end Go.Proofs.Ytonlllijdbjkaaa
