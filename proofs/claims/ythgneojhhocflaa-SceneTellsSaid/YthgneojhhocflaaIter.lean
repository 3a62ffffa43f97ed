/- Loops in closed form: plain laws. No condition. -/
import Derived.Test.YthgneojhhocflaaEng14
import Derived.Test.YthgneojhhocflaaNum
set_option linter.unusedVariables false
namespace Go.Proofs.Ythgneojhhocflaa

/-- n rounds. -/
def nfold {A : Type} (f : Nat → A → A) : Nat → A → A
  | 0, a => a
  | n + 1, a => f n (nfold f n a)
theorem nfold_congr {A : Type} {f g : Nat → A → A} {n : Nat} (h : ∀ k, k < n → ∀ a, f k a = g k a) (a : A) : nfold f n a = nfold g n a := by
  induction n with
  | zero => rfl
  | succ n ih => simp only [nfold]; rw [ih fun k hk => h k (by omega), h n (by omega)]
/-- Two loops, side by side. -/
theorem nfold_rel {A B : Type} {f : Nat → A → A} {g : Nat → B → B} (Q : Nat → A → B → Prop) {n : Nat} {a : A} {b : B} (h0 : Q 0 a b) (hs : ∀ k, k < n → ∀ a b, Q k a b → Q (k + 1) (f k a) (g k b)) : Q n (nfold f n a) (nfold g n b) := by
  induction n with
  | zero => exact h0
  | succ n ih => exact hs n (by omega) _ _ (ih fun k hk => hs k (by omega))
theorem nfold_inv {A : Type} {f : Nat → A → A} (Q : Nat → A → Prop) {n : Nat} {a : A} (h0 : Q 0 a) (hs : ∀ k, k < n → ∀ a, Q k a → Q (k + 1) (f k a)) : Q n (nfold f n a) := by
  induction n with
  | zero => exact h0
  | succ n ih => exact hs n (by omega) _ (ih fun k hk => hs k (by omega))
/-- Rounds k .. n, out at once where a round says so. -/
def rounds {A R : Type} (f : Nat → A → A ⊕ R) (out : A → R) : Nat → Nat → A → R
  | 0, _, a => out a
  | m + 1, k, a => match f k a with
    | .inl a' => rounds f out m (k + 1) a'
    | .inr r => r
theorem iter_range_from {A V R : Type} {step : V → Option (V ⊕ R)} (S : Nat → A → V) (Inv : Nat → A → Prop) {f : Nat → A → A} {out : A → R} {n : Nat}
    (hin : ∀ k, k < n → ∀ a, Inv k a → step (S k a) = some (.inl (S (k + 1) (f k a))) ∧ Inv (k + 1) (f k a)) (hout : ∀ a, Inv n a → step (S n a) = some (.inr (out a))) (a0 : A) (h0 : Inv 0 a0) :
    ∀ (d k m : Nat), k + d = n → d < m → Inv k (nfold f k a0) → iter step m (S k (nfold f k a0)) = some (out (nfold f n a0)) := by
  intro d
  induction d with
  | zero =>
    intro k m hk hm hi
    obtain ⟨m, rfl⟩ : ∃ m', m = m' + 1 := ⟨m - 1, by omega⟩
    obtain rfl : k = n := by omega
    simp [iter, hout _ hi]
  | succ d ih =>
    intro k m hk hm hi
    obtain ⟨m, rfl⟩ : ∃ m', m = m' + 1 := ⟨m - 1, by omega⟩
    obtain ⟨h1, h2⟩ := hin k (by omega) _ hi
    simp only [iter, h1]
    exact ih (k + 1) m (by omega) (by omega) h2
/-- A loop that counts, in closed form. -/
theorem iter_range {A V R : Type} {step : V → Option (V ⊕ R)} (S : Nat → A → V) (Inv : Nat → A → Prop) {f : Nat → A → A} {out : A → R} {n m : Nat} {v : V} {a0 : A} (hv : v = S 0 a0) (hm : n < m)
    (hin : ∀ k, k < n → ∀ a, Inv k a → step (S k a) = some (.inl (S (k + 1) (f k a))) ∧ Inv (k + 1) (f k a)) (hout : ∀ a, Inv n a → step (S n a) = some (.inr (out a))) (h0 : Inv 0 a0) :
    iter step m v = some (out (nfold f n a0)) := by
  rw [hv]; exact iter_range_from S Inv hin hout a0 h0 n 0 m (by omega) hm h0
theorem iter_rounds {A V R : Type} {step : V → Option (V ⊕ R)} (S : Nat → A → V) (Inv : Nat → A → Prop) {f : Nat → A → A ⊕ R} {out : A → R} {n : Nat}
    (hin : ∀ k, k < n → ∀ a, Inv k a → (∀ a', f k a = .inl a' → step (S k a) = some (.inl (S (k + 1) a')) ∧ Inv (k + 1) a') ∧ ∀ r, f k a = .inr r → step (S k a) = some (.inr r)) (hout : ∀ a, Inv n a → step (S n a) = some (.inr (out a))) :
    ∀ (d k m : Nat) (a : A), k + d = n → d < m → Inv k a → iter step m (S k a) = some (rounds f out d k a) := by
  intro d
  induction d with
  | zero =>
    intro k m a hk hm hi
    obtain ⟨m, rfl⟩ : ∃ m', m = m' + 1 := ⟨m - 1, by omega⟩
    obtain rfl : k = n := by omega
    simp [iter, hout _ hi, rounds]
  | succ d ih =>
    intro k m a hk hm hi
    obtain ⟨m, rfl⟩ : ∃ m', m = m' + 1 := ⟨m - 1, by omega⟩
    obtain ⟨h1, h2⟩ := hin k (by omega) _ hi
    simp only [iter, rounds]
    cases hf : f k a with
    | inl a' => obtain ⟨h3, h4⟩ := h1 a' hf; simp only [h3]; exact ih (k + 1) m a' (by omega) (by omega) h4
    | inr r => simp only [h2 r hf]
theorem wrap_eq (n : Int) : IntKind.i64.wrap n = RowKit.wrap64 n := by
  simp only [IntKind.wrap, IntKind.bits, IntKind.signed, RowKit.wrap64, Bool.true_and]
  split <;> rename_i h <;> simp at h <;> omega
theorem wrap_in {n : Int} (h0 : -9223372036854775808 ≤ n) (h1 : n ≤ 9223372036854775807) : IntKind.i64.wrap n = n := by
  rw [wrap_eq]; exact wrap_of h0 h1
/-- A list of n rows. -/
def tab (f : Nat → List Ct) (n : Nat) : List (List Ct) := (List.range n).map f
theorem tab_zero (f : Nat → List Ct) : tab f 0 = [] := rfl
theorem tab_succ (f : Nat → List Ct) (n : Nat) : tab f n ++ [f n] = tab f (n + 1) := by simp [tab, List.range_succ]
theorem tab_length (f : Nat → List Ct) (n : Nat) : (tab f n).length = n := by simp [tab]
theorem rd_tab {f : Nat → List Ct} {n j c : Nat} (h : j < n) : rd (tab f n) j c = (f j).getD c (.i 0) := by
  simp [rd, tab, h]
theorem rd_head {r : List Ct} {l : List (List Ct)} {c : Nat} : rd (r :: l) 0 c = r.getD c (.i 0) := rfl
theorem rd_tail {r : List Ct} {l : List (List Ct)} {j c : Nat} : rd (r :: l) (j + 1) c = rd l j c := rfl
theorem nfold_tab {F : Nat → List (List Ct) → List (List Ct)} {g : Nat → List Ct} (h : ∀ k a, F k a = a ++ [g k]) : ∀ n, nfold F n [] = tab g n := by
  intro n
  induction n with
  | zero => rfl
  | succ n ih => simp only [nfold, ih, h, tab_succ]
theorem rd_part0 {l : List (List Ct)} {n : Nat} {j c : Nat} (h : j < n) : rd (partOf l (0 : Int) (n : Int)) j c = rd l j c := by
  simp [rd, partOf, List.getD_eq_getElem?_getD, h]
theorem rest_length {l : List (List Ct)} : (partOf l (1 : Int) (l.length : Int)).length = l.length - 1 := by
  simp [partOf]
theorem rd_rest {l : List (List Ct)} {j c : Nat} (h : j < l.length - 1) : rd (partOf l (1 : Int) (l.length : Int)) j c = rd l (j + 1) c := by
  have : (1 : Int).toNat = 1 := rfl
  simp only [rd, partOf, List.getD_eq_getElem?_getD, List.getElem?_take, List.getElem?_drop, this, Int.toNat_natCast]
  rw [if_pos h, Nat.add_comm]
theorem cond_some {A : Type} {c : Bool} {a b : A} : (bif c then some a else some b) = some (bif c then a else b) := by cases c <;> rfl
end Go.Proofs.Ythgneojhhocflaa
