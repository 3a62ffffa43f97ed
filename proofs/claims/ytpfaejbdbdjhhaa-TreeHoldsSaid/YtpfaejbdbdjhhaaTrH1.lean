/- Trees: what is around some shapes holds each. No condition. -/
import Derived.Test.YtpfaejbdbdjhhaaTreeHoldsT
import Derived.Test.YtpfaejbdbdjhhaaTrP4
import Derived.Test.YtpfaejbdbdjhhaaTrLpa
set_option linter.unusedVariables false
set_option linter.unusedSimpArgs false
namespace Go.Proofs.Ytpfaejbdbdjhhaa
open Go.RowKit

noncomputable def holdsP (p q : P12) : Bool := lho_v p.1 p.2.1 p.2.2.1 p.2.2.2.1 p.2.2.2.2.1 p.2.2.2.2.2.1 p.2.2.2.2.2.2.1 p.2.2.2.2.2.2.2.1 p.2.2.2.2.2.2.2.2.1 p.2.2.2.2.2.2.2.2.2.1 p.2.2.2.2.2.2.2.2.2.2.1 p.2.2.2.2.2.2.2.2.2.2.2 q.1 q.2.1 q.2.2.1 q.2.2.2.1 q.2.2.2.2.1 q.2.2.2.2.2.1 q.2.2.2.2.2.2.1 q.2.2.2.2.2.2.2.1 q.2.2.2.2.2.2.2.2.1 q.2.2.2.2.2.2.2.2.2.1 q.2.2.2.2.2.2.2.2.2.2.1 q.2.2.2.2.2.2.2.2.2.2.2
theorem holdsP_of {p q : P12} (h : p.1 ≤ q.1 ∧ p.2.1 ≤ q.2.1 ∧ p.2.2.1 ≤ q.2.2.1 ∧ q.2.2.2.1 ≤ p.2.2.2.1 ∧ q.2.2.2.2.1 ≤ p.2.2.2.2.1 ∧ q.2.2.2.2.2.1 ≤ p.2.2.2.2.2.1 ∧ p.2.2.2.2.2.2.1 ≤ q.2.2.2.2.2.2.1 ∧ p.2.2.2.2.2.2.2.1 ≤ q.2.2.2.2.2.2.2.1 ∧ p.2.2.2.2.2.2.2.2.1 ≤ q.2.2.2.2.2.2.2.2.1 ∧ q.2.2.2.2.2.2.2.2.2.1 ≤ p.2.2.2.2.2.2.2.2.2.1 ∧ q.2.2.2.2.2.2.2.2.2.2.1 ≤ p.2.2.2.2.2.2.2.2.2.2.1 ∧ q.2.2.2.2.2.2.2.2.2.2.2 ≤ p.2.2.2.2.2.2.2.2.2.2.2) : holdsP p q = true := by
  obtain ⟨h0, h1, h2, h3, h4, h5, h6, h7, h8, h9, h10, h11⟩ := h
  unfold holdsP lho_v
  rw [cond_not (by omega), cond_not (by omega), cond_not (by omega), cond_not (by omega), cond_not (by omega), cond_not (by omega), cond_not (by omega), cond_not (by omega), cond_not (by omega), cond_not (by omega), cond_not (by omega), cond_not (by omega)]
theorem ar_key (c : P12 → Int) (le : Int → Int → Prop) (hrefl : ∀ x, le x x) (htr : ∀ x y z, le x y → le y z → le x z) (hc : ∀ a b, le (c (both2 a b)) (c a) ∧ le (c (both2 a b)) (c b) ∧ (c (both2 a b) = c a ∨ c (both2 a b) = c b)) (Q : List (List Ct)) {l : List Int} (h0 : 0 < l.length) :
    (∀ i ∈ l, le (c (arL Q l)) (c (prI Q i))) ∧ ∃ i ∈ l, c (arL Q l) = c (prI Q i) := by
  have key : ∀ m, m ≤ l.length - 1 → (∀ k, k ≤ m → le (c (nfold (fun k a => both2 a (prI Q (l.getD (k + 1) 0))) m (prI Q (l.getD 0 0)))) (c (prI Q (l.getD k 0)))) ∧ ∃ k, k ≤ m ∧ c (nfold (fun k a => both2 a (prI Q (l.getD (k + 1) 0))) m (prI Q (l.getD 0 0))) = c (prI Q (l.getD k 0)) := by
    intro m
    induction m with
    | zero =>
      intro _
      refine ⟨fun k hk => ?_, 0, Nat.le_refl _, rfl⟩
      have : k = 0 := by omega
      subst this
      exact hrefl _
    | succ m ih =>
      intro hm
      obtain ⟨i1, k0, i2, i3⟩ := ih (by omega)
      simp only [nfold]
      generalize nfold (fun k a => both2 a (prI Q (l.getD (k + 1) 0))) m (prI Q (l.getD 0 0)) = a at *
      obtain ⟨c1, c2, c3⟩ := hc a (prI Q (l.getD (m + 1) 0))
      refine ⟨fun k hk => ?_, ?_⟩
      · by_cases h : k = m + 1
        · subst h; exact c2
        · exact htr _ _ _ c1 (i1 k (by omega))
      · rcases c3 with c3 | c3
        · exact ⟨k0, by omega, c3.trans i3⟩
        · exact ⟨m + 1, Nat.le_refl _, c3⟩
  obtain ⟨h1, k0, h2, h3⟩ := key (l.length - 1) (Nat.le_refl _)
  refine ⟨fun i hi => ?_, l.getD k0 0, getD_mem (by omega), h3⟩
  obtain ⟨k, hk, rfl⟩ := List.getElem_of_mem hi
  have := h1 k (by omega)
  have e : l.getD k 0 = l[k] := by simp [List.getD, hk]
  rwa [e] at this
theorem ar_min (c : P12 → Int) (hc : ∀ a b, c (both2 a b) = if c b < c a then c b else c a) (Q : List (List Ct)) {l : List Int} (h0 : 0 < l.length) : (∀ i ∈ l, c (arL Q l) ≤ c (prI Q i)) ∧ ∃ i ∈ l, c (arL Q l) = c (prI Q i) :=
  ar_key c (· ≤ ·) (fun _ => Int.le_refl _) (fun _ _ _ => Int.le_trans) (fun a b => by rw [hc]; split <;> exact ⟨by omega, by omega, by simp⟩) Q h0
theorem ar_max (c : P12 → Int) (hc : ∀ a b, c (both2 a b) = if c b > c a then c b else c a) (Q : List (List Ct)) {l : List Int} (h0 : 0 < l.length) : (∀ i ∈ l, c (prI Q i) ≤ c (arL Q l)) ∧ ∃ i ∈ l, c (arL Q l) = c (prI Q i) :=
  ar_key c (fun x y => y ≤ x) (fun _ => Int.le_refl _) (fun _ _ _ h k => Int.le_trans k h) (fun a b => by rw [hc]; split <;> exact ⟨by omega, by omega, by simp⟩) Q h0
theorem one_min (c : P12 → Int) (hc : ∀ a b, c (both2 a b) = if c b < c a then c b else c a) (Q : List (List Ct)) {l : List Int} {i : Int} (hi : i ∈ l) : c (arL Q l) ≤ c (prI Q i) := (ar_min c hc Q (List.length_pos_of_mem hi)).1 i hi
theorem one_max (c : P12 → Int) (hc : ∀ a b, c (both2 a b) = if c b > c a then c b else c a) (Q : List (List Ct)) {l : List Int} {i : Int} (hi : i ∈ l) : c (prI Q i) ≤ c (arL Q l) := (ar_max c hc Q (List.length_pos_of_mem hi)).1 i hi
theorem sub_min (c : P12 → Int) (hc : ∀ a b, c (both2 a b) = if c b < c a then c b else c a) (Q : List (List Ct)) {l x : List Int} (hx : 0 < x.length) (hs : ∀ i ∈ x, i ∈ l) : c (arL Q l) ≤ c (arL Q x) := by
  obtain ⟨i, hi, h⟩ := (ar_min c hc Q hx).2
  rw [h]; exact one_min c hc Q (hs i hi)
theorem sub_max (c : P12 → Int) (hc : ∀ a b, c (both2 a b) = if c b > c a then c b else c a) (Q : List (List Ct)) {l x : List Int} (hx : 0 < x.length) (hs : ∀ i ∈ x, i ∈ l) : c (arL Q x) ≤ c (arL Q l) := by
  obtain ⟨i, hi, h⟩ := (ar_max c hc Q hx).2
  rw [h]; exact one_max c hc Q (hs i hi)
theorem holds_one (Q : List (List Ct)) {l : List Int} {i : Int} (hi : i ∈ l) : holdsP (arL Q l) (prI Q i) = true :=
  holdsP_of ⟨one_min (fun p : P12 => p.1) (fun _ _ => rfl) Q hi, one_min (fun p : P12 => p.2.1) (fun _ _ => rfl) Q hi, one_min (fun p : P12 => p.2.2.1) (fun _ _ => rfl) Q hi, one_max (fun p : P12 => p.2.2.2.1) (fun _ _ => rfl) Q hi, one_max (fun p : P12 => p.2.2.2.2.1) (fun _ _ => rfl) Q hi, one_max (fun p : P12 => p.2.2.2.2.2.1) (fun _ _ => rfl) Q hi, one_min (fun p : P12 => p.2.2.2.2.2.2.1) (fun _ _ => rfl) Q hi, one_min (fun p : P12 => p.2.2.2.2.2.2.2.1) (fun _ _ => rfl) Q hi, one_min (fun p : P12 => p.2.2.2.2.2.2.2.2.1) (fun _ _ => rfl) Q hi, one_max (fun p : P12 => p.2.2.2.2.2.2.2.2.2.1) (fun _ _ => rfl) Q hi, one_max (fun p : P12 => p.2.2.2.2.2.2.2.2.2.2.1) (fun _ _ => rfl) Q hi, one_max (fun p : P12 => p.2.2.2.2.2.2.2.2.2.2.2) (fun _ _ => rfl) Q hi⟩
theorem holds_sub (Q : List (List Ct)) {l x : List Int} (hx : 0 < x.length) (hs : ∀ i ∈ x, i ∈ l) : holdsP (arL Q l) (arL Q x) = true :=
  holdsP_of ⟨sub_min (fun p : P12 => p.1) (fun _ _ => rfl) Q hx hs, sub_min (fun p : P12 => p.2.1) (fun _ _ => rfl) Q hx hs, sub_min (fun p : P12 => p.2.2.1) (fun _ _ => rfl) Q hx hs, sub_max (fun p : P12 => p.2.2.2.1) (fun _ _ => rfl) Q hx hs, sub_max (fun p : P12 => p.2.2.2.2.1) (fun _ _ => rfl) Q hx hs, sub_max (fun p : P12 => p.2.2.2.2.2.1) (fun _ _ => rfl) Q hx hs, sub_min (fun p : P12 => p.2.2.2.2.2.2.1) (fun _ _ => rfl) Q hx hs, sub_min (fun p : P12 => p.2.2.2.2.2.2.2.1) (fun _ _ => rfl) Q hx hs, sub_min (fun p : P12 => p.2.2.2.2.2.2.2.2.1) (fun _ _ => rfl) Q hx hs, sub_max (fun p : P12 => p.2.2.2.2.2.2.2.2.2.1) (fun _ _ => rfl) Q hx hs, sub_max (fun p : P12 => p.2.2.2.2.2.2.2.2.2.2.1) (fun _ _ => rfl) Q hx hs, sub_max (fun p : P12 => p.2.2.2.2.2.2.2.2.2.2.2) (fun _ _ => rfl) Q hx hs⟩
/-- A block's first row tells what is around its shapes. -/
theorem nodes_head (Q : List (List Ct)) {k base first : Nat} {l : List Int} (hk : 0 < k) : prI (nodesL Q k base first l).1 0 = arL Q l := by
  obtain ⟨k, rfl⟩ : ∃ q, k = q + 1 := ⟨k - 1, by omega⟩
  unfold nodesL
  by_cases h4 : l.length ≤ 4
  · rw [if_pos h4]; rfl
  · rw [if_neg h4]; rfl
end Go.Proofs.Ytpfaejbdbdjhhaa
