/- The law BoxHolds: it answers true for all values. No condition. -/
import Derived.Test.YtaikocplcblnkabBoxHolds
set_option linter.unusedVariables false
set_option linter.unusedSimpArgs false
namespace Go.Proofs.Ytaikocplcblnkab
open Go.RowKit

theorem lerp_mono {a a' b b' : Int} (t : Int) (ha : a ≤ a') (hb : b ≤ b') : lerpS a b t ≤ lerpS a' b' t := by
  have hu := unS_bd t
  have h1 := heldS_mono ha
  have h2 := heldS_mono hb
  unfold lerpS
  refine heldS_mono ?_
  generalize unS t = u at hu ⊢
  generalize heldS a = A at h1 ⊢
  generalize heldS a' = A' at h1 ⊢
  generalize heldS b = B at h2 ⊢
  generalize heldS b' = B' at h2 ⊢
  have p0 : (A' - A) * u ≤ (A' - A) * 65536 := Int.mul_le_mul_of_nonneg_left hu.2 (by omega)
  have q0 : 0 ≤ (B' - B) * u := Int.mul_nonneg (by omega) hu.1
  have e : (B' - A') * u = (B - A) * u + (B' - B) * u - (A' - A) * u := by
    simp only [Int.sub_mul]
    omega
  rw [e]
  generalize (A' - A) * u = p at p0 ⊢
  generalize (B' - B) * u = q at q0 ⊢
  generalize (B - A) * u = m
  omega
theorem both_bd {a0 a1 a2 a3 a4 a5 a6 a7 a8 a9 a10 a11 : Int} {l : List (List Ct)} : ∀ m, ((nfold (vboth_L0_F a0 a1 a2 a3 a4 a5 a6 a7 a8 a9 a10 a11 l) m (a0, a1, a2, a3, a4, a5, a6, a7, a8, a9, a10, a11)).1 ≤ a0 ∧ (nfold (vboth_L0_F a0 a1 a2 a3 a4 a5 a6 a7 a8 a9 a10 a11 l) m (a0, a1, a2, a3, a4, a5, a6, a7, a8, a9, a10, a11)).2.1 ≤ a1 ∧ (nfold (vboth_L0_F a0 a1 a2 a3 a4 a5 a6 a7 a8 a9 a10 a11 l) m (a0, a1, a2, a3, a4, a5, a6, a7, a8, a9, a10, a11)).2.2.1 ≤ a2 ∧ a3 ≤ (nfold (vboth_L0_F a0 a1 a2 a3 a4 a5 a6 a7 a8 a9 a10 a11 l) m (a0, a1, a2, a3, a4, a5, a6, a7, a8, a9, a10, a11)).2.2.2.1 ∧ a4 ≤ (nfold (vboth_L0_F a0 a1 a2 a3 a4 a5 a6 a7 a8 a9 a10 a11 l) m (a0, a1, a2, a3, a4, a5, a6, a7, a8, a9, a10, a11)).2.2.2.2.1 ∧ a5 ≤ (nfold (vboth_L0_F a0 a1 a2 a3 a4 a5 a6 a7 a8 a9 a10 a11 l) m (a0, a1, a2, a3, a4, a5, a6, a7, a8, a9, a10, a11)).2.2.2.2.2.1 ∧ (nfold (vboth_L0_F a0 a1 a2 a3 a4 a5 a6 a7 a8 a9 a10 a11 l) m (a0, a1, a2, a3, a4, a5, a6, a7, a8, a9, a10, a11)).2.2.2.2.2.2.1 ≤ a6 ∧ (nfold (vboth_L0_F a0 a1 a2 a3 a4 a5 a6 a7 a8 a9 a10 a11 l) m (a0, a1, a2, a3, a4, a5, a6, a7, a8, a9, a10, a11)).2.2.2.2.2.2.2.1 ≤ a7 ∧ (nfold (vboth_L0_F a0 a1 a2 a3 a4 a5 a6 a7 a8 a9 a10 a11 l) m (a0, a1, a2, a3, a4, a5, a6, a7, a8, a9, a10, a11)).2.2.2.2.2.2.2.2.1 ≤ a8 ∧ a9 ≤ (nfold (vboth_L0_F a0 a1 a2 a3 a4 a5 a6 a7 a8 a9 a10 a11 l) m (a0, a1, a2, a3, a4, a5, a6, a7, a8, a9, a10, a11)).2.2.2.2.2.2.2.2.2.1 ∧ a10 ≤ (nfold (vboth_L0_F a0 a1 a2 a3 a4 a5 a6 a7 a8 a9 a10 a11 l) m (a0, a1, a2, a3, a4, a5, a6, a7, a8, a9, a10, a11)).2.2.2.2.2.2.2.2.2.2.1 ∧ a11 ≤ (nfold (vboth_L0_F a0 a1 a2 a3 a4 a5 a6 a7 a8 a9 a10 a11 l) m (a0, a1, a2, a3, a4, a5, a6, a7, a8, a9, a10, a11)).2.2.2.2.2.2.2.2.2.2.2) ∧ ∀ j, j < m  → (nfold (vboth_L0_F a0 a1 a2 a3 a4 a5 a6 a7 a8 a9 a10 a11 l) m (a0, a1, a2, a3, a4, a5, a6, a7, a8, a9, a10, a11)).1 ≤ (rd l j 0).int ∧ (nfold (vboth_L0_F a0 a1 a2 a3 a4 a5 a6 a7 a8 a9 a10 a11 l) m (a0, a1, a2, a3, a4, a5, a6, a7, a8, a9, a10, a11)).2.1 ≤ (rd l j 1).int ∧ (nfold (vboth_L0_F a0 a1 a2 a3 a4 a5 a6 a7 a8 a9 a10 a11 l) m (a0, a1, a2, a3, a4, a5, a6, a7, a8, a9, a10, a11)).2.2.1 ≤ (rd l j 2).int ∧ (rd l j 3).int ≤ (nfold (vboth_L0_F a0 a1 a2 a3 a4 a5 a6 a7 a8 a9 a10 a11 l) m (a0, a1, a2, a3, a4, a5, a6, a7, a8, a9, a10, a11)).2.2.2.1 ∧ (rd l j 4).int ≤ (nfold (vboth_L0_F a0 a1 a2 a3 a4 a5 a6 a7 a8 a9 a10 a11 l) m (a0, a1, a2, a3, a4, a5, a6, a7, a8, a9, a10, a11)).2.2.2.2.1 ∧ (rd l j 5).int ≤ (nfold (vboth_L0_F a0 a1 a2 a3 a4 a5 a6 a7 a8 a9 a10 a11 l) m (a0, a1, a2, a3, a4, a5, a6, a7, a8, a9, a10, a11)).2.2.2.2.2.1 ∧ (nfold (vboth_L0_F a0 a1 a2 a3 a4 a5 a6 a7 a8 a9 a10 a11 l) m (a0, a1, a2, a3, a4, a5, a6, a7, a8, a9, a10, a11)).2.2.2.2.2.2.1 ≤ (rd l j 6).int ∧ (nfold (vboth_L0_F a0 a1 a2 a3 a4 a5 a6 a7 a8 a9 a10 a11 l) m (a0, a1, a2, a3, a4, a5, a6, a7, a8, a9, a10, a11)).2.2.2.2.2.2.2.1 ≤ (rd l j 7).int ∧ (nfold (vboth_L0_F a0 a1 a2 a3 a4 a5 a6 a7 a8 a9 a10 a11 l) m (a0, a1, a2, a3, a4, a5, a6, a7, a8, a9, a10, a11)).2.2.2.2.2.2.2.2.1 ≤ (rd l j 8).int ∧ (rd l j 9).int ≤ (nfold (vboth_L0_F a0 a1 a2 a3 a4 a5 a6 a7 a8 a9 a10 a11 l) m (a0, a1, a2, a3, a4, a5, a6, a7, a8, a9, a10, a11)).2.2.2.2.2.2.2.2.2.1 ∧ (rd l j 10).int ≤ (nfold (vboth_L0_F a0 a1 a2 a3 a4 a5 a6 a7 a8 a9 a10 a11 l) m (a0, a1, a2, a3, a4, a5, a6, a7, a8, a9, a10, a11)).2.2.2.2.2.2.2.2.2.2.1 ∧ (rd l j 11).int ≤ (nfold (vboth_L0_F a0 a1 a2 a3 a4 a5 a6 a7 a8 a9 a10 a11 l) m (a0, a1, a2, a3, a4, a5, a6, a7, a8, a9, a10, a11)).2.2.2.2.2.2.2.2.2.2.2 := by
  intro m
  induction m with
  | zero => exact ⟨by simp [nfold], fun j hj => by omega⟩
  | succ m ih =>
    obtain ⟨⟨h0, h1, h2, h3, h4, h5, h6, h7, h8, h9, h10, h11⟩, hr⟩ := ih
    simp only [nfold, vboth_L0_F]
    refine ⟨⟨by split <;> omega, by split <;> omega, by split <;> omega, by split <;> omega, by split <;> omega, by split <;> omega, by split <;> omega, by split <;> omega, by split <;> omega, by split <;> omega, by split <;> omega, by split <;> omega⟩, fun j hj => ?_⟩
    rcases Nat.lt_or_ge j m with h | h
    · obtain ⟨k0, k1, k2, k3, k4, k5, k6, k7, k8, k9, k10, k11⟩ := hr j h
      exact ⟨by split <;> omega, by split <;> omega, by split <;> omega, by split <;> omega, by split <;> omega, by split <;> omega, by split <;> omega, by split <;> omega, by split <;> omega, by split <;> omega, by split <;> omega, by split <;> omega⟩
    · obtain rfl : j = m := by omega
      exact ⟨by split <;> omega, by split <;> omega, by split <;> omega, by split <;> omega, by split <;> omega, by split <;> omega, by split <;> omega, by split <;> omega, by split <;> omega, by split <;> omega, by split <;> omega, by split <;> omega⟩
theorem all_bd {I : List (List Ct)} : ∀ k, k < I.length → (vboth_v (rd I 0 0).int (rd I 0 1).int (rd I 0 2).int (rd I 0 3).int (rd I 0 4).int (rd I 0 5).int (rd I 0 6).int (rd I 0 7).int (rd I 0 8).int (rd I 0 9).int (rd I 0 10).int (rd I 0 11).int (partOf I (1 : Int) (I.length : Int))).1 ≤ (rd I k 0).int ∧ (vboth_v (rd I 0 0).int (rd I 0 1).int (rd I 0 2).int (rd I 0 3).int (rd I 0 4).int (rd I 0 5).int (rd I 0 6).int (rd I 0 7).int (rd I 0 8).int (rd I 0 9).int (rd I 0 10).int (rd I 0 11).int (partOf I (1 : Int) (I.length : Int))).2.1 ≤ (rd I k 1).int ∧ (vboth_v (rd I 0 0).int (rd I 0 1).int (rd I 0 2).int (rd I 0 3).int (rd I 0 4).int (rd I 0 5).int (rd I 0 6).int (rd I 0 7).int (rd I 0 8).int (rd I 0 9).int (rd I 0 10).int (rd I 0 11).int (partOf I (1 : Int) (I.length : Int))).2.2.1 ≤ (rd I k 2).int ∧ (rd I k 3).int ≤ (vboth_v (rd I 0 0).int (rd I 0 1).int (rd I 0 2).int (rd I 0 3).int (rd I 0 4).int (rd I 0 5).int (rd I 0 6).int (rd I 0 7).int (rd I 0 8).int (rd I 0 9).int (rd I 0 10).int (rd I 0 11).int (partOf I (1 : Int) (I.length : Int))).2.2.2.1 ∧ (rd I k 4).int ≤ (vboth_v (rd I 0 0).int (rd I 0 1).int (rd I 0 2).int (rd I 0 3).int (rd I 0 4).int (rd I 0 5).int (rd I 0 6).int (rd I 0 7).int (rd I 0 8).int (rd I 0 9).int (rd I 0 10).int (rd I 0 11).int (partOf I (1 : Int) (I.length : Int))).2.2.2.2.1 ∧ (rd I k 5).int ≤ (vboth_v (rd I 0 0).int (rd I 0 1).int (rd I 0 2).int (rd I 0 3).int (rd I 0 4).int (rd I 0 5).int (rd I 0 6).int (rd I 0 7).int (rd I 0 8).int (rd I 0 9).int (rd I 0 10).int (rd I 0 11).int (partOf I (1 : Int) (I.length : Int))).2.2.2.2.2.1 ∧ (vboth_v (rd I 0 0).int (rd I 0 1).int (rd I 0 2).int (rd I 0 3).int (rd I 0 4).int (rd I 0 5).int (rd I 0 6).int (rd I 0 7).int (rd I 0 8).int (rd I 0 9).int (rd I 0 10).int (rd I 0 11).int (partOf I (1 : Int) (I.length : Int))).2.2.2.2.2.2.1 ≤ (rd I k 6).int ∧ (vboth_v (rd I 0 0).int (rd I 0 1).int (rd I 0 2).int (rd I 0 3).int (rd I 0 4).int (rd I 0 5).int (rd I 0 6).int (rd I 0 7).int (rd I 0 8).int (rd I 0 9).int (rd I 0 10).int (rd I 0 11).int (partOf I (1 : Int) (I.length : Int))).2.2.2.2.2.2.2.1 ≤ (rd I k 7).int ∧ (vboth_v (rd I 0 0).int (rd I 0 1).int (rd I 0 2).int (rd I 0 3).int (rd I 0 4).int (rd I 0 5).int (rd I 0 6).int (rd I 0 7).int (rd I 0 8).int (rd I 0 9).int (rd I 0 10).int (rd I 0 11).int (partOf I (1 : Int) (I.length : Int))).2.2.2.2.2.2.2.2.1 ≤ (rd I k 8).int ∧ (rd I k 9).int ≤ (vboth_v (rd I 0 0).int (rd I 0 1).int (rd I 0 2).int (rd I 0 3).int (rd I 0 4).int (rd I 0 5).int (rd I 0 6).int (rd I 0 7).int (rd I 0 8).int (rd I 0 9).int (rd I 0 10).int (rd I 0 11).int (partOf I (1 : Int) (I.length : Int))).2.2.2.2.2.2.2.2.2.1 ∧ (rd I k 10).int ≤ (vboth_v (rd I 0 0).int (rd I 0 1).int (rd I 0 2).int (rd I 0 3).int (rd I 0 4).int (rd I 0 5).int (rd I 0 6).int (rd I 0 7).int (rd I 0 8).int (rd I 0 9).int (rd I 0 10).int (rd I 0 11).int (partOf I (1 : Int) (I.length : Int))).2.2.2.2.2.2.2.2.2.2.1 ∧ (rd I k 11).int ≤ (vboth_v (rd I 0 0).int (rd I 0 1).int (rd I 0 2).int (rd I 0 3).int (rd I 0 4).int (rd I 0 5).int (rd I 0 6).int (rd I 0 7).int (rd I 0 8).int (rd I 0 9).int (rd I 0 10).int (rd I 0 11).int (partOf I (1 : Int) (I.length : Int))).2.2.2.2.2.2.2.2.2.2.2 := by
  intro k hk
  have hb := both_bd (a0 := (rd I 0 0).int) (a1 := (rd I 0 1).int) (a2 := (rd I 0 2).int) (a3 := (rd I 0 3).int) (a4 := (rd I 0 4).int) (a5 := (rd I 0 5).int) (a6 := (rd I 0 6).int) (a7 := (rd I 0 7).int) (a8 := (rd I 0 8).int) (a9 := (rd I 0 9).int) (a10 := (rd I 0 10).int) (a11 := (rd I 0 11).int) (l := partOf I (1 : Int) (I.length : Int)) (I.length - 1)
  unfold vboth_v
  rw [rest_length]
  cases k with
  | zero => exact hb.1
  | succ j =>
    have := hb.2 j (by omega)
    simp only [rd_rest (l := I) (j := j) (show j < I.length - 1 by omega)] at this
    exact this
theorem iter_try {A V R : Type} {step : V → Option (V ⊕ R)} (S : Nat → A → V) (Inv : Nat → A → Prop) (f : Nat → A → A) (bad : R → Prop) (good : A → R → Prop) {n : Nat}
    (hin : ∀ k, k < n → ∀ a, Inv k a → (step (S k a) = some (.inl (S (k + 1) (f k a))) ∧ Inv (k + 1) (f k a)) ∨ ∃ r, step (S k a) = some (.inr r) ∧ bad r) (hout : ∀ a, Inv n a → ∃ r, step (S n a) = some (.inr r) ∧ good a r) :
    ∀ (d k m : Nat) (a : A), k + d = n → d < m → Inv k a → ∃ r, iter step m (S k a) = some r ∧ (bad r ∨ ∃ a, Inv n a ∧ good a r) := by
  intro d
  induction d with
  | zero =>
    intro k m a hk hm hi
    obtain ⟨m, rfl⟩ : ∃ m', m = m' + 1 := ⟨m - 1, by omega⟩
    obtain rfl : k = n := by omega
    obtain ⟨r, h1, h2⟩ := hout a hi
    exact ⟨r, by simp [iter, h1], .inr ⟨a, hi, h2⟩⟩
  | succ d ih =>
    intro k m a hk hm hi
    obtain ⟨m, rfl⟩ : ∃ m', m = m' + 1 := ⟨m - 1, by omega⟩
    rcases hin k (by omega) a hi with ⟨h1, h2⟩ | ⟨r, h1, h2⟩
    · simp only [iter, h1]
      exact ih (k + 1) m _ (by omega) (by omega) h2
    · exact ⟨r, by simp [iter, h1], .inl h2⟩
def rowQ (l : List (List Ct)) (j : Nat) : List Ct := [.i (rd l j 0).int, .i (rd l j 1).int, .i (rd l j 2).int, .i (rd l j 3).int, .i (rd l j 4).int, .i (rd l j 5).int, .i (rd l j 6).int, .i (rd l j 7).int, .i (rd l j 8).int, .i (rd l j 9).int, .i (rd l j 10).int, .i (rd l j 11).int]
theorem lbh_one (x0 : List (List Ct)) (x1 : Int) (h40 : x0.length ≤ 40) : lbh_L0_p x0 x1 = true ∧ (isL (lbh_L0_v x0 x1) = false ∨ (isL (lbh_L0_v x0 x1) = true ∧ (getL (lbh_L0_v x0 x1)).2.length = x0.length)) := by
  obtain ⟨r, h1, h2⟩ := iter_try (step := lbh_L0_step x0 x1) (A := List (List Ct)) (fun k a => ((k : Int), a)) (fun k a => a.length = k) (fun k a => a ++ [rowQ x0 k]) (fun r => r = .inr ()) (fun a r => r = .inl ((x0.length : Int), a)) (n := x0.length)
    (fun k hk a hi => by
      have e3 : a.length + 1 ≤ 9223372036854775807 ∧ (a.length + 1) * 96 ≤ 140737488355328 := by omega
      cases c1 : lheld_v (rd x0 k 0).int (rd x0 k 1).int (rd x0 k 2).int (rd x0 k 3).int (rd x0 k 4).int (rd x0 k 5).int with
      | false => right; exact ⟨_, by simp [lbh_L0_step, hk, c1], rfl⟩
      | true =>
        cases c2 : lheld_v (rd x0 k 6).int (rd x0 k 7).int (rd x0 k 8).int (rd x0 k 9).int (rd x0 k 10).int (rd x0 k 11).int with
        | false => right; exact ⟨_, by simp [lbh_L0_step, hk, c1, c2], rfl⟩
        | true => left; exact ⟨by simp [lbh_L0_step, hk, c1, c2, e3.1, e3.2, rowQ, wrap_in (n := (k : Int) + 1) (by omega) (by omega)], by simp [hi]⟩)
    (fun a hi => ⟨_, by simp [lbh_L0_step], rfl⟩) x0.length 0 (x0.length + 1) [] (by omega) (by omega) rfl
  have hp : lbh_L0_p x0 x1 = true := by unfold lbh_L0_p; rw [show ((0 : Int), ([] : List (List Ct))) = (((0 : Nat) : Int), []) from rfl, h1, Option.isSome_some]
  have hv : lbh_L0_v x0 x1 = r := by unfold lbh_L0_v; rw [show ((0 : Int), ([] : List (List Ct))) = (((0 : Nat) : Int), []) from rfl, h1, Option.getD_some]
  refine ⟨hp, ?_⟩
  rw [hv]
  rcases h2 with rfl | ⟨a, ha, rfl⟩
  · left; rfl
  · right; exact ⟨rfl, ha⟩
theorem lbh_two (x0 : List (List Ct)) (x1 : Int) (h40 : x0.length ≤ 40) (hI : (getL (lbh_L0_v x0 x1)).2.length = x0.length) : lbh_L2_p x0 x1 = true ∧ isL (lbh_L2_v x0 x1) = true := by
  have := iter_range (step := lbh_L2_step x0 x1) (A := Unit) (fun k _ => (k : Int)) (fun _ _ => True) (f := fun _ a => a) (out := fun _ => .inl (((getL (lbh_L0_v x0 x1)).2.length : Nat) : Int)) (n := (getL (lbh_L0_v x0 x1)).2.length) (m := x0.length + 1) (v := 0) (a0 := ()) rfl (by omega)
    (fun k hk a _ => ⟨by
      obtain ⟨b0, b1, b2, b3, b4, b5, b6, b7, b8, b9, b10, b11⟩ := all_bd (I := (getL (lbh_L0_v x0 x1)).2) k hk
      have z : Int.toNat (0 : Int) = 0 := rfl
      have d1 : decide ((k : Int) < ((getL (lbh_L0_v x0 x1)).2.length : Int)) = true := by simp; omega
      have d2 : decide ((0 : Int) ≤ (k : Int) ∧ (k : Int) < ((getL (lbh_L0_v x0 x1)).2.length : Int)) = true := by simp; omega
      have w : IntKind.i64.wrap ((k : Int) + 1) = (k : Int) + 1 := wrap_in (by omega) (by omega)
      have e0 := decide_eq_false (Int.not_lt.2 (lerp_mono x1 b0 b6))
      have e1 := decide_eq_false (Int.not_lt.2 (lerp_mono x1 b3 b9))
      have e2 := decide_eq_false (Int.not_lt.2 (lerp_mono x1 b1 b7))
      have e3 := decide_eq_false (Int.not_lt.2 (lerp_mono x1 b4 b10))
      have e4 := decide_eq_false (Int.not_lt.2 (lerp_mono x1 b2 b8))
      have e5 := decide_eq_false (Int.not_lt.2 (lerp_mono x1 b5 b11))
      simp only [lbh_L2_step, z, Int.toNat_natCast, gt_iff_lt, d1, d2, e0, e1, e2, e3, e4, e5, w, cond_true, cond_false]
      rfl, trivial⟩)
    (fun a _ => by simp [lbh_L2_step]) trivial
  exact ⟨by unfold lbh_L2_p; rw [this, Option.isSome_some], by unfold lbh_L2_v; rw [this, Option.getD_some]; rfl⟩
theorem lbh_true (x0 : List (List Ct)) (x1 : Int) : lbh_res x0 x1 = some true := by
  by_cases hz : x0.length = 0
  · simp [lbh_res, hz]
  by_cases h40 : x0.length ≤ 40
  rotate_left
  · have : (40 : Int) < x0.length := by omega
    simp [lbh_res, hz, this]
  have g3 : ¬ (40 : Int) < x0.length := by omega
  have f1 : ((x0.length : Int) == (0 : Int)) = false := by simp [hz]
  obtain ⟨p1, h⟩ := lbh_one x0 x1 h40
  rcases h with h | ⟨h, hI⟩
  · simp only [lbh_res, f1, gt_iff_lt, g3, p1, h, decide_false, cond_true, cond_false]
  · obtain ⟨p2, h2⟩ := lbh_two x0 x1 h40 hI
    have o1 : (1 : Int) ≤ x0.length := by omega
    have o3 : (0 : Int) < x0.length := by omega
    have o6 : x0.length - 1 ≤ 9223372036854775000 := by omega
    have r1 : (partOf (getL (lbh_L0_v x0 x1)).snd (1 : Int) (x0.length : Int)).length = x0.length - 1 := by
      have := rest_length (l := (getL (lbh_L0_v x0 x1)).snd)
      rw [hI] at this
      exact this
    simp only [lbh_res, f1, gt_iff_lt, g3, p1, h, p2, h2, hI, r1, o1, o3, o6, Int.le_refl, and_self, decide_true, decide_false, cond_true, cond_false, show (0 : Int) ≤ (1 : Int) from by decide]
theorem lbh_call (x0 : List (List Ct)) (x1 : Int) : CallOk Try.prog 6 [.sv (.one (.ext 0)), .sv (.one (.val false (.int .i64 x1)))] [(0, .grid [.int .i64, .int .i64, .int .i64, .int .i64, .int .i64, .int .i64, .int .i64, .int .i64, .int .i64, .int .i64, .int .i64, .int .i64] x0)] 1 (lbh_O true) := lbh_tree (lbh_true x0 x1)
end Go.Proofs.Ytaikocplcblnkab
