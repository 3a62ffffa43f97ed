/- Rows of four numbers, changed in place: what is the same, what is sorted; two exchanges. Plain Lean. No condition. -/
import Derived.Test.YtmpaelkjooahoaaSortT
set_option linter.unusedVariables false
set_option linter.unusedSimpArgs false
namespace Go.Proofs.Ytmpaelkjooahoaa
open Go.RowKit

/-- A loop by what stays true in it. -/
theorem iter_inv {V R : Type} {step : V → Option (V ⊕ R)} (I : V → Prop) (Q : R → Prop) (μ : V → Nat) (h : ∀ v, I v → (∃ v', step v = some (.inl v') ∧ I v' ∧ μ v' < μ v) ∨ ∃ r, step v = some (.inr r) ∧ Q r) : ∀ (n : Nat) (v : V), I v → μ v < n → ∃ r, iter step n v = some r ∧ Q r := by
  intro n
  induction n with
  | zero => intro v _ hm; omega
  | succ n ih =>
    intro v hi hm
    rcases h v hi with ⟨v', h1, h2, h3⟩ | ⟨r, h1, h2⟩
    · rw [iter_inl h1]; exact ih v' h2 (by omega)
    · exact ⟨r, iter_inr h1, h2⟩
/-- A row's numbers. -/
abbrev kA (l : List (List Ct)) (k : Nat) : K4 := ((rd l k 0).int, (rd l k 1).int, (rd l k 2).int, (rd l k 3).int)
theorem rd_set4 {l : List (List Ct)} {p : Nat} {r : List Ct} (hp : p < l.length) (k j : Nat) : rd (l.set p r) k j = if k = p then r.getD j (.i 0) else rd l k j := by
  unfold rd
  by_cases hk : k = p
  · subst hk
    rw [if_pos rfl]
    simp [List.getD_eq_getElem?_getD, hp]
  · rw [if_neg hk]
    simp only [List.getD_eq_getElem?_getD]
    rw [List.getElem?_set_ne (by omega)]
theorem kA_set {l : List (List Ct)} {p : Nat} {a b c d : Int} (hp : p < l.length) (k : Nat) : kA (l.set p [.i a, .i b, .i c, .i d]) k = if k = p then (a, b, c, d) else kA l k := by
  unfold kA
  simp only [rd_set4 hp]
  by_cases hk : k = p
  · simp only [if_pos hk]; rfl
  · simp only [if_neg hk]
/-- Two rows, exchanged. -/
theorem kA_swap {l : List (List Ct)} {p q : Nat} (hp : p < l.length) (hq : q < l.length) (k : Nat) : kA ((l.set p [.i (rd l q 0).int, .i (rd l q 1).int, .i (rd l q 2).int, .i (rd l q 3).int]).set q [.i (rd l p 0).int, .i (rd l p 1).int, .i (rd l p 2).int, .i (rd l p 3).int]) k = kA l (if k = q then p else if k = p then q else k) := by
  rw [kA_set (by rw [List.length_set]; exact hq), kA_set hp]
  by_cases h1 : k = q
  · simp only [if_pos h1]
  · simp only [if_neg h1]
    by_cases h2 : k = p
    · simp only [if_pos h2]
    · simp only [if_neg h2]
/-- From i to j the same rows, in another order; all others as they were. -/
structure Sam (i j : Nat) (l l' : List (List Ct)) : Prop where
  len : l'.length = l.length
  out : ∀ k, k < i ∨ j ≤ k → kA l' k = kA l k
  to : ∀ k, i ≤ k → k < j → ∃ q, i ≤ q ∧ q < j ∧ kA l' k = kA l q
  fro : ∀ k, i ≤ k → k < j → ∃ q, i ≤ q ∧ q < j ∧ kA l k = kA l' q
theorem Sam.refl (i j : Nat) (l : List (List Ct)) : Sam i j l l := ⟨rfl, fun _ _ => rfl, fun k h1 h2 => ⟨k, h1, h2, rfl⟩, fun k h1 h2 => ⟨k, h1, h2, rfl⟩⟩
theorem Sam.trans {i j : Nat} {l l' l'' : List (List Ct)} (h : Sam i j l l') (g : Sam i j l' l'') : Sam i j l l'' :=
  ⟨g.len.trans h.len, fun k hk => (g.out k hk).trans (h.out k hk), fun k h1 h2 => by
    obtain ⟨q, q1, q2, q3⟩ := g.to k h1 h2
    obtain ⟨r, r1, r2, r3⟩ := h.to q q1 q2
    exact ⟨r, r1, r2, q3.trans r3⟩, fun k h1 h2 => by
    obtain ⟨q, q1, q2, q3⟩ := h.fro k h1 h2
    obtain ⟨r, r1, r2, r3⟩ := g.fro q q1 q2
    exact ⟨r, r1, r2, q3.trans r3⟩⟩
theorem Sam.wide {i j i' j' : Nat} {l l' : List (List Ct)} (h : Sam i j l l') (h1 : i' ≤ i) (h2 : j ≤ j') : Sam i' j' l l' :=
  ⟨h.len, fun k hk => h.out k (by omega), fun k k1 k2 => by
    by_cases hk : i ≤ k ∧ k < j
    · obtain ⟨q, q1, q2, q3⟩ := h.to k hk.1 hk.2
      exact ⟨q, by omega, by omega, q3⟩
    · exact ⟨k, k1, k2, h.out k (by omega)⟩, fun k k1 k2 => by
    by_cases hk : i ≤ k ∧ k < j
    · obtain ⟨q, q1, q2, q3⟩ := h.fro k hk.1 hk.2
      exact ⟨q, by omega, by omega, q3⟩
    · exact ⟨k, k1, k2, (h.out k (by omega)).symm⟩⟩
/-- By where each row comes from, and goes to. -/
theorem Sam.of_map {i j : Nat} {l l' : List (List Ct)} (f g : Nat → Nat) (hl : l'.length = l.length) (hf : ∀ k, kA l' k = kA l (f k)) (ho : ∀ k, k < i ∨ j ≤ k → f k = k) (hi : ∀ k, i ≤ k → k < j → i ≤ f k ∧ f k < j) (hg : ∀ k, i ≤ k → k < j → i ≤ g k ∧ g k < j ∧ f (g k) = k) : Sam i j l l' :=
  ⟨hl, fun k hk => by rw [hf, ho k hk], fun k h1 h2 => ⟨f k, (hi k h1 h2).1, (hi k h1 h2).2, hf k⟩, fun k h1 h2 => ⟨g k, (hg k h1 h2).1, (hg k h1 h2).2.1, by rw [hf, (hg k h1 h2).2.2]⟩⟩
/-- Sorted by time, from i to j. -/
def Srt (i j : Nat) (l : List (List Ct)) : Prop := ∀ p q, i ≤ p → p < q → q < j → (kA l p).1 ≤ (kA l q).1
theorem Srt.le {i j : Nat} {l : List (List Ct)} (h : Srt i j l) {p q : Nat} (h1 : i ≤ p) (h2 : p ≤ q) (h3 : q < j) : (kA l p).1 ≤ (kA l q).1 := by
  rcases Nat.lt_or_eq_of_le h2 with h4 | rfl
  · exact h p q h1 h4 h3
  · exact Int.le_refl _
/-- Exchange of a .. a + n and b .. b + n. -/
def swpI (a b n k : Nat) : Nat := if a ≤ k ∧ k < a + n then k + (b - a) else if b ≤ k ∧ k < b + n then k - (b - a) else k
/-- a .. m behind m .. b. -/
def rotI (a m b k : Nat) : Nat := if a ≤ k ∧ k < a + (b - m) then k + (m - a) else if a + (b - m) ≤ k ∧ k < b then k - (b - m) else k
def unrI (a m b k : Nat) : Nat := if a ≤ k ∧ k < m then k + (b - m) else if m ≤ k ∧ k < b then k - (m - a) else k
theorem swp_succ {a b n k : Nat} (h : a + n < b) : swpI a b n (if k = b + n then a + n else if k = a + n then b + n else k) = swpI a b (n + 1) k := by
  unfold swpI
  repeat' split
  all_goals omega
theorem rot_left {a m i j k : Nat} (hj : 0 < j) (h : j < i) (hi : i ≤ m) : swpI (m - i) m j (rotI (m - i + j) m (m + j) k) = rotI (m - i) m (m + j) k := by
  unfold swpI rotI
  repeat' split
  all_goals omega
theorem rot_right {a m i j k : Nat} (hi0 : 0 < i) (h : i < j) (hi : i ≤ m) : swpI (m - i) (m + j - i) i (rotI (m - i) m (m + (j - i)) k) = rotI (m - i) m (m + j) k := by
  unfold swpI rotI
  repeat' split
  all_goals omega
theorem rot_same {m i k : Nat} (hi : i ≤ m) : swpI (m - i) m i k = rotI (m - i) m (m + i) k := by
  unfold swpI rotI
  repeat' split
  all_goals omega
theorem sam_rot {a m b : Nat} {l l' : List (List Ct)} (h1 : a ≤ m) (h2 : m ≤ b) (hl : l'.length = l.length) (hf : ∀ k, kA l' k = kA l (rotI a m b k)) : Sam a b l l' :=
  Sam.of_map (rotI a m b) (unrI a m b) hl hf (fun k hk => by unfold rotI; repeat' split
                                                             all_goals omega) (fun k k1 k2 => by unfold rotI; repeat' split
                                                                                                 all_goals omega) (fun k k1 k2 => by
    unfold rotI unrI
    refine ⟨?_, ?_, ?_⟩
    all_goals repeat' split
    all_goals omega)
end Go.Proofs.Ytmpaelkjooahoaa
