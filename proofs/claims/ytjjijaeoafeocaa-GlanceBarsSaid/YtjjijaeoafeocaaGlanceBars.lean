/- GlanceBars is true. No condition. -/
import Derived.Test.YtjjijaeoafeocaaGlTimes
import Derived.Test.YtjjijaeoafeocaaGlSame
import Derived.Test.YtjjijaeoafeocaaGlanceBarsT
set_option linter.unusedVariables false
set_option linter.unusedSimpArgs false
namespace Go.Proofs.Ytjjijaeoafeocaa
open Go.RowKit

theorem iter_bad_from {V R : Type} {step : V → Option (V ⊕ (R ⊕ Unit))} (S : Nat → V) (r : R) {n : Nat} {bad : Nat → Bool} (hin : ∀ k, k < n → step (S k) = some (bif bad k then .inr (.inr ()) else .inl (S (k + 1)))) (hout : step (S n) = some (.inr (.inl r))) :
    ∀ (d k m : Nat), k + d = n → d < m → iter step m (S k) = some (bif (findB bad d k).isSome then .inr () else .inl r) := by
  intro d
  induction d with
  | zero =>
    intro k m hk hm
    obtain ⟨m, rfl⟩ : ∃ q, m = q + 1 := ⟨m - 1, by omega⟩
    obtain rfl : k = n := by omega
    rw [iter_inr hout]; rfl
  | succ d ih =>
    intro k m hk hm
    obtain ⟨m, rfl⟩ : ∃ q, m = q + 1 := ⟨m - 1, by omega⟩
    have h := hin k (by omega)
    cases hb : bad k with
    | true =>
      rw [hb] at h
      rw [iter_inr h]
      have : (findB bad (d + 1) k).isSome = true := by simp [findB, hb]
      rw [this]; rfl
    | false =>
      rw [hb] at h
      rw [iter_inl h, ih (k + 1) m (by omega) (by omega)]
      have : findB bad (d + 1) k = findB bad d (k + 1) := by simp [findB, hb]
      rw [this]
/-- The greatest of the first ones. -/
def mxI (g : Nat → Int) (s : Int) : Nat → Int
  | 0 => s
  | k + 1 => if g k > mxI g s k then g k else mxI g s k
def badG (g : Nat → Int) (k : Nat) : Bool := bif decide (g k < (0 : Int)) then true else decide (g k > (1048576 : Int))
theorem mxI_ge {g : Nat → Int} {s : Int} : ∀ k, s ≤ mxI g s k ∧ ∀ j, j < k → g j ≤ mxI g s k := by
  intro k
  induction k with
  | zero => exact ⟨Int.le_refl _, fun j hj => by omega⟩
  | succ k ih =>
    obtain ⟨h1, h2⟩ := ih
    refine ⟨by simp only [mxI]; split <;> omega, fun j hj => ?_⟩
    by_cases e : j = k
    · subst e; simp only [mxI]; split <;> omega
    · have := h2 j (by omega)
      simp only [mxI]; split <;> omega
theorem mxI_is {g : Nat → Int} {s : Int} : ∀ k, mxI g s k = s ∨ ∃ j, j < k ∧ g j = mxI g s k := by
  intro k
  induction k with
  | zero => exact .inl rfl
  | succ k ih =>
    simp only [mxI]
    split
    · exact .inr ⟨k, by omega, rfl⟩
    · rcases ih with h | ⟨j, hj, h⟩
      · exact .inl h
      · exact .inr ⟨j, by omega, h⟩
theorem mxI_one {g : Nat → Int} : ∀ k, mxI g 1 k = if 1 > mxI g 0 k then 1 else mxI g 0 k := by
  intro k
  induction k with
  | zero => rfl
  | succ k ih =>
    simp only [mxI, ih]
    repeat (first | split | omega)
/-- How long a bar is. -/
def barN (n q w : Int) : Nat := (n.tdiv q * 0 + (n * w).tdiv q).toNat
theorem bar_in {n q w : Int} (n0 : 0 ≤ n) (n1 : n ≤ 1048576) (w0 : 1 ≤ w) (w1 : w ≤ 100) (q0 : 1 ≤ q) : IntKind.i64.wrap ((IntKind.i64.wrap (n * w)).tdiv q) = (((n * w).tdiv q).toNat : Int) ∧ ((n * w).tdiv q).toNat ≤ 104857600 ∧ (n ≤ q → ((n * w).tdiv q).toNat ≤ w.toNat) ∧ (n = q → ((n * w).tdiv q).toNat = w.toNat) := by
  obtain ⟨a, rfl⟩ : ∃ a : Nat, n = a := ⟨n.toNat, by omega⟩
  obtain ⟨b, rfl⟩ : ∃ b : Nat, w = b := ⟨w.toNat, by omega⟩
  obtain ⟨c, rfl⟩ : ∃ c : Nat, q = c := ⟨q.toNat, by omega⟩
  have hab : a * b ≤ 1048576 * 100 := Nat.mul_le_mul (by omega) (by omega)
  have hm : ((a : Int) * (b : Int)) = ((a * b : Nat) : Int) := (Int.natCast_mul a b).symm
  have hd : ((a * b : Nat) : Int).tdiv (c : Int) = ((a * b / c : Nat) : Int) := rfl
  have hle : a * b / c ≤ a * b := Nat.div_le_self _ _
  have k1 : IntKind.i64.wrap ((a * b : Nat) : Int) = ((a * b : Nat) : Int) := wrap_in (by omega) (by omega)
  have k2 : ∀ z : Nat, z ≤ a * b → IntKind.i64.wrap (z : Int) = (z : Int) := fun z hz => wrap_in (by omega) (by omega)
  rw [hm, k1, hd, k2 _ hle]
  refine ⟨by rw [Int.toNat_natCast], by simp only [Int.toNat_natCast]; omega, fun h => ?_, fun h => ?_⟩
  · simp only [Int.toNat_natCast]
    have h' : a ≤ c := by omega
    calc a * b / c ≤ c * b / c := Nat.div_le_div_right (Nat.mul_le_mul_right b h')
      _ = b := Nat.mul_div_cancel_left b (by omega)
  · simp only [Int.toNat_natCast]
    have h' : a = c := by omega
    subst h'
    exact Nat.mul_div_cancel_left b (by omega)
def barS (n q w : Int) : ByteArray := tms 35 ((n * w).tdiv q).toNat
theorem bar_is {n m w : Int} (n0 : 0 ≤ n) (n1 : n ≤ 1048576) (w0 : 1 ≤ w) (w1 : w ≤ 100) : bar_res n m w = some (barS n (if (1 : Int) > m then (1 : Int) else m) w) := by
  have q0 : 1 ≤ (if (1 : Int) > m then (1 : Int) else m) := by split <;> omega
  obtain ⟨e, l, _⟩ := bar_in n0 n1 w0 w1 q0
  unfold bar_res
  generalize (if (1 : Int) > m then (1 : Int) else m) = q at *
  rw [e]
  refine (cond_decI (by omega)).trans ?_
  refine (cond_decI ⟨rfl, by omega, by omega⟩).trans ?_
  rw [gd1, times_nat]; rfl
section
variable (a0 a1 a2 a3 a4 a5 a6 a7 a8 a9 a10 a11 a12 a13 a14 a15 : Int)
def g16 (k : Nat) : Int := [a0, a1, a2, a3, a4, a5, a6, a7, a8, a9, a10, a11, a12, a13, a14, a15].getD k 0
theorem g16_rd {k : Nat} (h : k < 16) : (rd (numRows [a0, a1, a2, a3, a4, a5, a6, a7, a8, a9, a10, a11, a12, a13, a14, a15]) k 0).int = g16 a0 a1 a2 a3 a4 a5 a6 a7 a8 a9 a10 a11 a12 a13 a14 a15 k := by rw [numRows_rd h]; rfl
theorem nr_len : (numRows [a0, a1, a2, a3, a4, a5, a6, a7, a8, a9, a10, a11, a12, a13, a14, a15]).length = 16 := rfl
theorem bas_one : iter (bas_L0_step a0 a1 a2 a3 a4 a5 a6 a7 a8 a9 a10 a11 a12 a13 a14 a15) 17 (0, 0) = some (bif (findB (badG (g16 a0 a1 a2 a3 a4 a5 a6 a7 a8 a9 a10 a11 a12 a13 a14 a15)) 16 0).isSome then .inr () else .inl (mxI (g16 a0 a1 a2 a3 a4 a5 a6 a7 a8 a9 a10 a11 a12 a13 a14 a15) 0 16, 16)) := by
  refine iter_bad_from (fun k => (mxI (g16 a0 a1 a2 a3 a4 a5 a6 a7 a8 a9 a10 a11 a12 a13 a14 a15) 0 k, (k : Int))) (mxI (g16 a0 a1 a2 a3 a4 a5 a6 a7 a8 a9 a10 a11 a12 a13 a14 a15) 0 16, 16) (n := 16) (bad := badG (g16 a0 a1 a2 a3 a4 a5 a6 a7 a8 a9 a10 a11 a12 a13 a14 a15)) (fun k hk => ?_) ?_ 16 0 17 rfl (by omega)
  · simp only [bas_L0_step]
    refine (cond_decI (by omega)).trans ?_
    refine (cond_decI (by omega)).trans ?_
    rw [Int.toNat_natCast, wrap_succ (by omega)]
    change (bif badG (g16 a0 a1 a2 a3 a4 a5 a6 a7 a8 a9 a10 a11 a12 a13 a14 a15) k then _ else some (Sum.inl (if g16 a0 a1 a2 a3 a4 a5 a6 a7 a8 a9 a10 a11 a12 a13 a14 a15 k > mxI (g16 a0 a1 a2 a3 a4 a5 a6 a7 a8 a9 a10 a11 a12 a13 a14 a15) 0 k then g16 a0 a1 a2 a3 a4 a5 a6 a7 a8 a9 a10 a11 a12 a13 a14 a15 k else mxI (g16 a0 a1 a2 a3 a4 a5 a6 a7 a8 a9 a10 a11 a12 a13 a14 a15) 0 k, _))) = _
    cases badG (g16 a0 a1 a2 a3 a4 a5 a6 a7 a8 a9 a10 a11 a12 a13 a14 a15) k <;> rfl
  · simp only [bas_L0_step]
    exact cond_notI (by omega)
theorem rba_one : iter (rba_L0_step a0 a1 a2 a3 a4 a5 a6 a7 a8 a9 a10 a11 a12 a13 a14 a15) 17 (1, 0) = some (bif (findB (badG (g16 a0 a1 a2 a3 a4 a5 a6 a7 a8 a9 a10 a11 a12 a13 a14 a15)) 16 0).isSome then .inr () else .inl (mxI (g16 a0 a1 a2 a3 a4 a5 a6 a7 a8 a9 a10 a11 a12 a13 a14 a15) 1 16, 16)) := by
  refine iter_bad_from (fun k => (mxI (g16 a0 a1 a2 a3 a4 a5 a6 a7 a8 a9 a10 a11 a12 a13 a14 a15) 1 k, (k : Int))) (mxI (g16 a0 a1 a2 a3 a4 a5 a6 a7 a8 a9 a10 a11 a12 a13 a14 a15) 1 16, 16) (n := 16) (bad := badG (g16 a0 a1 a2 a3 a4 a5 a6 a7 a8 a9 a10 a11 a12 a13 a14 a15)) (fun k hk => ?_) ?_ 16 0 17 rfl (by omega)
  · simp only [rba_L0_step]
    refine (cond_decI (by omega)).trans ?_
    have d : decide ((0 : Int) ≤ (k : Int) ∧ (k : Int) < (16 : Int) ∧ (k : Int) < ((numRows [a0, a1, a2, a3, a4, a5, a6, a7, a8, a9, a10, a11, a12, a13, a14, a15]).length : Int)) = true := decide_eq_true (by rw [nr_len a0 a1 a2 a3 a4 a5 a6 a7 a8 a9 a10 a11 a12 a13 a14 a15]; omega)
    rw [d, Int.toNat_natCast, g16_rd a0 a1 a2 a3 a4 a5 a6 a7 a8 a9 a10 a11 a12 a13 a14 a15 hk, wrap_succ (by omega), cond_same, cond_same, Bool.and_self, cond_true, cond_true, cond_true]
    change (bif badG (g16 a0 a1 a2 a3 a4 a5 a6 a7 a8 a9 a10 a11 a12 a13 a14 a15) k then _ else some (Sum.inl (bif decide (g16 a0 a1 a2 a3 a4 a5 a6 a7 a8 a9 a10 a11 a12 a13 a14 a15 k > mxI (g16 a0 a1 a2 a3 a4 a5 a6 a7 a8 a9 a10 a11 a12 a13 a14 a15) 1 k) then g16 a0 a1 a2 a3 a4 a5 a6 a7 a8 a9 a10 a11 a12 a13 a14 a15 k else mxI (g16 a0 a1 a2 a3 a4 a5 a6 a7 a8 a9 a10 a11 a12 a13 a14 a15) 1 k, _))) = _
    have e : (bif decide (g16 a0 a1 a2 a3 a4 a5 a6 a7 a8 a9 a10 a11 a12 a13 a14 a15 k > mxI (g16 a0 a1 a2 a3 a4 a5 a6 a7 a8 a9 a10 a11 a12 a13 a14 a15) 1 k) then g16 a0 a1 a2 a3 a4 a5 a6 a7 a8 a9 a10 a11 a12 a13 a14 a15 k else mxI (g16 a0 a1 a2 a3 a4 a5 a6 a7 a8 a9 a10 a11 a12 a13 a14 a15) 1 k) = mxI (g16 a0 a1 a2 a3 a4 a5 a6 a7 a8 a9 a10 a11 a12 a13 a14 a15) 1 (k + 1) := by
      simp only [mxI]
      by_cases h : g16 a0 a1 a2 a3 a4 a5 a6 a7 a8 a9 a10 a11 a12 a13 a14 a15 k > mxI (g16 a0 a1 a2 a3 a4 a5 a6 a7 a8 a9 a10 a11 a12 a13 a14 a15) 1 k
      · rw [if_pos h]; exact cond_decI h
      · rw [if_neg h]; exact cond_notI h
    rw [e]
    cases badG (g16 a0 a1 a2 a3 a4 a5 a6 a7 a8 a9 a10 a11 a12 a13 a14 a15) k <;> rfl
  · simp only [rba_L0_step]
    exact cond_notI (by omega)
/-- There are no bars. -/
def noBars (w : Int) : Prop := (w < 1 ∨ w > 100) ∨ (findB (badG (g16 a0 a1 a2 a3 a4 a5 a6 a7 a8 a9 a10 a11 a12 a13 a14 a15)) 16 0).isSome = true
theorem basN_is {w : Int} (h : noBars a0 a1 a2 a3 a4 a5 a6 a7 a8 a9 a10 a11 a12 a13 a14 a15 w) : basN_res a0 a1 a2 a3 a4 a5 a6 a7 a8 a9 a10 a11 a12 a13 a14 a15 w = some () ∧ rbaN_res a0 a1 a2 a3 a4 a5 a6 a7 a8 a9 a10 a11 a12 a13 a14 a15 w = some () := by
  by_cases c : w < 1 ∨ w > 100
  · have d : (bif decide (w < (1 : Int)) then true else decide (w > (100 : Int))) = true := by
      rcases c with c | c
      · exact cond_decI c
      · rw [decide_eq_true c, cond_same]
    exact ⟨by unfold basN_res; rw [d]; rfl, by unfold rbaN_res; rw [d]; rfl⟩
  · have d : (bif decide (w < (1 : Int)) then true else decide (w > (100 : Int))) = false := by
      rw [decide_eq_false (by omega), decide_eq_false (by omega)]; rfl
    have hb : (findB (badG (g16 a0 a1 a2 a3 a4 a5 a6 a7 a8 a9 a10 a11 a12 a13 a14 a15)) 16 0).isSome = true := by rcases h with h | h; exact absurd h c; exact h
    have i := bas_one a0 a1 a2 a3 a4 a5 a6 a7 a8 a9 a10 a11 a12 a13 a14 a15
    have j := rba_one a0 a1 a2 a3 a4 a5 a6 a7 a8 a9 a10 a11 a12 a13 a14 a15
    rw [hb] at i j
    have p1 : bas_L0_p a0 a1 a2 a3 a4 a5 a6 a7 a8 a9 a10 a11 a12 a13 a14 a15 = true := by unfold bas_L0_p; rw [i]; rfl
    have v1 : isL (bas_L0_v a0 a1 a2 a3 a4 a5 a6 a7 a8 a9 a10 a11 a12 a13 a14 a15) = false := by unfold bas_L0_v; rw [i]; rfl
    have p2 : rba_L0_p a0 a1 a2 a3 a4 a5 a6 a7 a8 a9 a10 a11 a12 a13 a14 a15 = true := by unfold rba_L0_p; rw [j]; rfl
    have v2 : isL (rba_L0_v a0 a1 a2 a3 a4 a5 a6 a7 a8 a9 a10 a11 a12 a13 a14 a15) = false := by unfold rba_L0_v; rw [j]; rfl
    exact ⟨by unfold basN_res; rw [d, p1, v1]; rfl, by unfold rbaN_res; rw [d, p2, v2]; rfl⟩
theorem lgn_true {w : Int} (h : noBars a0 a1 a2 a3 a4 a5 a6 a7 a8 a9 a10 a11 a12 a13 a14 a15 w) : lgn_res a0 a1 a2 a3 a4 a5 a6 a7 a8 a9 a10 a11 a12 a13 a14 a15 w = some true := by
  obtain ⟨h1, h2⟩ := basN_is a0 a1 a2 a3 a4 a5 a6 a7 a8 a9 a10 a11 a12 a13 a14 a15 h
  unfold lgn_res
  rw [h1, h2]
  refine (cond_decI (by rw [nr_len a0 a1 a2 a3 a4 a5 a6 a7 a8 a9 a10 a11 a12 a13 a14 a15]; omega)).trans ?_
  refine (cond_true _ _).trans ?_
  refine (cond_decI (by rw [nr_len a0 a1 a2 a3 a4 a5 a6 a7 a8 a9 a10 a11 a12 a13 a14 a15]; omega)).trans ?_
  rfl
section
variable {w : Int} (w0 : 1 ≤ w) (w1 : w ≤ 100) (hb : (findB (badG (g16 a0 a1 a2 a3 a4 a5 a6 a7 a8 a9 a10 a11 a12 a13 a14 a15)) 16 0).isSome = false)
include w0 w1 hb
omit w0 w1 in
theorem good16 {k : Nat} (hk : k < 16) : 0 ≤ g16 a0 a1 a2 a3 a4 a5 a6 a7 a8 a9 a10 a11 a12 a13 a14 a15 k ∧ g16 a0 a1 a2 a3 a4 a5 a6 a7 a8 a9 a10 a11 a12 a13 a14 a15 k ≤ 1048576 := by
  have h : findB (badG (g16 a0 a1 a2 a3 a4 a5 a6 a7 a8 a9 a10 a11 a12 a13 a14 a15)) 16 0 = none := by cases h : findB (badG (g16 a0 a1 a2 a3 a4 a5 a6 a7 a8 a9 a10 a11 a12 a13 a14 a15)) 16 0 with | none => rfl | some _ => rw [h] at hb; cases hb
  have := findB_none.1 h k (by omega) (by omega)
  unfold badG at this
  by_cases c : g16 a0 a1 a2 a3 a4 a5 a6 a7 a8 a9 a10 a11 a12 a13 a14 a15 k < 0
  · rw [decide_eq_true c] at this; cases this
  · rw [decide_eq_false c] at this
    have := of_decide_eq_false this
    omega
theorem bas_is : bas_res a0 a1 a2 a3 a4 a5 a6 a7 a8 a9 a10 a11 a12 a13 a14 a15 w = some (0, tab (fun k => [.s (barS (g16 a0 a1 a2 a3 a4 a5 a6 a7 a8 a9 a10 a11 a12 a13 a14 a15 k) (mxI (g16 a0 a1 a2 a3 a4 a5 a6 a7 a8 a9 a10 a11 a12 a13 a14 a15) 1 16) w)]) 16) := by
  have d : (bif decide (w < (1 : Int)) then true else decide (w > (100 : Int))) = false := by
    rw [decide_eq_false (by omega), decide_eq_false (by omega)]; rfl
  have i := bas_one a0 a1 a2 a3 a4 a5 a6 a7 a8 a9 a10 a11 a12 a13 a14 a15
  rw [hb] at i
  have p1 : bas_L0_p a0 a1 a2 a3 a4 a5 a6 a7 a8 a9 a10 a11 a12 a13 a14 a15 = true := by unfold bas_L0_p; rw [i]; rfl
  have v1 : bas_L0_v a0 a1 a2 a3 a4 a5 a6 a7 a8 a9 a10 a11 a12 a13 a14 a15 = .inl (mxI (g16 a0 a1 a2 a3 a4 a5 a6 a7 a8 a9 a10 a11 a12 a13 a14 a15) 0 16, 16) := by unfold bas_L0_v; rw [i]; rfl
  have j : iter (bas_L2_step a0 a1 a2 a3 a4 a5 a6 a7 a8 a9 a10 a11 a12 a13 a14 a15 w) 17 (0, []) = some ((16 : Int), tab (fun k => [.s (barS (g16 a0 a1 a2 a3 a4 a5 a6 a7 a8 a9 a10 a11 a12 a13 a14 a15 k) (mxI (g16 a0 a1 a2 a3 a4 a5 a6 a7 a8 a9 a10 a11 a12 a13 a14 a15) 1 16) w)]) 16) := by
    refine iter_run (fun k => ((k : Int), tab (fun k => [.s (barS (g16 a0 a1 a2 a3 a4 a5 a6 a7 a8 a9 a10 a11 a12 a13 a14 a15 k) (mxI (g16 a0 a1 a2 a3 a4 a5 a6 a7 a8 a9 a10 a11 a12 a13 a14 a15) 1 16) w)]) k)) (n := 16) rfl (fun k hk => ?_) ?_ (by omega)
    · obtain ⟨g0, g1⟩ := good16 a0 a1 a2 a3 a4 a5 a6 a7 a8 a9 a10 a11 a12 a13 a14 a15 hb hk
      have e := bar_is (m := mxI (g16 a0 a1 a2 a3 a4 a5 a6 a7 a8 a9 a10 a11 a12 a13 a14 a15) 0 16) g0 g1 w0 w1
      rw [← mxI_one] at e
      have ev : bas_c98120774 a0 a1 a2 a3 a4 a5 a6 a7 a8 a9 a10 a11 a12 a13 a14 a15 w (k : Int) = barS (g16 a0 a1 a2 a3 a4 a5 a6 a7 a8 a9 a10 a11 a12 a13 a14 a15 k) (mxI (g16 a0 a1 a2 a3 a4 a5 a6 a7 a8 a9 a10 a11 a12 a13 a14 a15) 1 16) w := by
        unfold bas_c98120774 bar_v
        rw [v1, Int.toNat_natCast]
        exact congrArg (fun o => Option.getD o default) e
      simp only [bas_L2_step, v1, ev, Int.toNat_natCast, getL]
      refine (cond_decI (by omega)).trans ?_
      refine (cond_decI (by omega)).trans ?_
      refine (congrArg (fun o => bif Option.isSome o then _ else none) e).trans ?_
      refine (cond_decI (by simp only [tab_length, List.length_cons, List.length_nil]; omega)).trans ?_
      rw [wrap_succ (by omega)]
      exact congrArg (fun z => some (Sum.inl (((k + 1 : Nat) : Int), z))) (tab_succ _ k)
    · simp only [bas_L2_step]
      exact cond_notI (by omega)
  have p2 : bas_L2_p a0 a1 a2 a3 a4 a5 a6 a7 a8 a9 a10 a11 a12 a13 a14 a15 w = true := by unfold bas_L2_p; rw [j]; rfl
  have v2 : bas_L2_v a0 a1 a2 a3 a4 a5 a6 a7 a8 a9 a10 a11 a12 a13 a14 a15 w = ((16 : Int), tab (fun k => [.s (barS (g16 a0 a1 a2 a3 a4 a5 a6 a7 a8 a9 a10 a11 a12 a13 a14 a15 k) (mxI (g16 a0 a1 a2 a3 a4 a5 a6 a7 a8 a9 a10 a11 a12 a13 a14 a15) 1 16) w)]) 16) := by unfold bas_L2_v loopRes; rw [j]; rfl
  unfold bas_res
  rw [d, p1, v1, p2, v2]
  rfl
theorem rba_is : rba_res a0 a1 a2 a3 a4 a5 a6 a7 a8 a9 a10 a11 a12 a13 a14 a15 w = some (tab (fun k => [.s (barS (g16 a0 a1 a2 a3 a4 a5 a6 a7 a8 a9 a10 a11 a12 a13 a14 a15 k) (mxI (g16 a0 a1 a2 a3 a4 a5 a6 a7 a8 a9 a10 a11 a12 a13 a14 a15) 1 16) w)]) 16) := by
  have d : (bif decide (w < (1 : Int)) then true else decide (w > (100 : Int))) = false := by
    rw [decide_eq_false (by omega), decide_eq_false (by omega)]; rfl
  have i := rba_one a0 a1 a2 a3 a4 a5 a6 a7 a8 a9 a10 a11 a12 a13 a14 a15
  rw [hb] at i
  have p1 : rba_L0_p a0 a1 a2 a3 a4 a5 a6 a7 a8 a9 a10 a11 a12 a13 a14 a15 = true := by unfold rba_L0_p; rw [i]; rfl
  have v1 : rba_L0_v a0 a1 a2 a3 a4 a5 a6 a7 a8 a9 a10 a11 a12 a13 a14 a15 = .inl (mxI (g16 a0 a1 a2 a3 a4 a5 a6 a7 a8 a9 a10 a11 a12 a13 a14 a15) 1 16, 16) := by unfold rba_L0_v; rw [i]; rfl
  have q0 : 1 ≤ mxI (g16 a0 a1 a2 a3 a4 a5 a6 a7 a8 a9 a10 a11 a12 a13 a14 a15) 1 16 := (mxI_ge 16).1
  have j : iter (rba_L2_step a0 a1 a2 a3 a4 a5 a6 a7 a8 a9 a10 a11 a12 a13 a14 a15 w) 17 (0, []) = some ((16 : Int), tab (fun k => [.s (barS (g16 a0 a1 a2 a3 a4 a5 a6 a7 a8 a9 a10 a11 a12 a13 a14 a15 k) (mxI (g16 a0 a1 a2 a3 a4 a5 a6 a7 a8 a9 a10 a11 a12 a13 a14 a15) 1 16) w)]) 16) := by
    refine iter_run (fun k => ((k : Int), tab (fun k => [.s (barS (g16 a0 a1 a2 a3 a4 a5 a6 a7 a8 a9 a10 a11 a12 a13 a14 a15 k) (mxI (g16 a0 a1 a2 a3 a4 a5 a6 a7 a8 a9 a10 a11 a12 a13 a14 a15) 1 16) w)]) k)) (n := 16) rfl (fun k hk => ?_) ?_ (by omega)
    · obtain ⟨g0, g1⟩ := good16 a0 a1 a2 a3 a4 a5 a6 a7 a8 a9 a10 a11 a12 a13 a14 a15 hb hk
      obtain ⟨e1, e2, _⟩ := bar_in g0 g1 w0 w1 q0
      have ev : rba_c19771313 a0 a1 a2 a3 a4 a5 a6 a7 a8 a9 a10 a11 a12 a13 a14 a15 w (k : Int) = barS (g16 a0 a1 a2 a3 a4 a5 a6 a7 a8 a9 a10 a11 a12 a13 a14 a15 k) (mxI (g16 a0 a1 a2 a3 a4 a5 a6 a7 a8 a9 a10 a11 a12 a13 a14 a15) 1 16) w := by
        unfold rba_c19771313
        rw [v1, Int.toNat_natCast, g16_rd a0 a1 a2 a3 a4 a5 a6 a7 a8 a9 a10 a11 a12 a13 a14 a15 hk]
        exact (congrArg (tim_v 35) e1).trans (tim_vis 35 _ (by omega))
      have et : tim_res (35 : Int) (IntKind.i64.wrap ((IntKind.i64.wrap (g16 a0 a1 a2 a3 a4 a5 a6 a7 a8 a9 a10 a11 a12 a13 a14 a15 k * w)).tdiv (mxI (g16 a0 a1 a2 a3 a4 a5 a6 a7 a8 a9 a10 a11 a12 a13 a14 a15) 1 16))) = some (barS (g16 a0 a1 a2 a3 a4 a5 a6 a7 a8 a9 a10 a11 a12 a13 a14 a15 k) (mxI (g16 a0 a1 a2 a3 a4 a5 a6 a7 a8 a9 a10 a11 a12 a13 a14 a15) 1 16) w) := by rw [e1]; exact tim_is 35 _ (by omega)
      simp only [rba_L2_step, v1, ev, Int.toNat_natCast, getL, g16_rd a0 a1 a2 a3 a4 a5 a6 a7 a8 a9 a10 a11 a12 a13 a14 a15 hk]
      refine (cond_decI (by omega)).trans ?_
      refine (cond_decI (by rw [nr_len a0 a1 a2 a3 a4 a5 a6 a7 a8 a9 a10 a11 a12 a13 a14 a15]; omega)).trans ?_
      refine (cond_decI (by omega)).trans ?_
      refine (congrArg (fun o => bif Option.isSome o then _ else none) et).trans ?_
      refine (cond_decI (by simp only [tab_length, List.length_cons, List.length_nil]; omega)).trans ?_
      rw [wrap_succ (by omega)]
      exact congrArg (fun z => some (Sum.inl (((k + 1 : Nat) : Int), z))) (tab_succ _ k)
    · simp only [rba_L2_step]
      exact cond_notI (by omega)
  have p2 : rba_L2_p a0 a1 a2 a3 a4 a5 a6 a7 a8 a9 a10 a11 a12 a13 a14 a15 w = true := by unfold rba_L2_p; rw [j]; rfl
  have v2 : rba_L2_v a0 a1 a2 a3 a4 a5 a6 a7 a8 a9 a10 a11 a12 a13 a14 a15 w = ((16 : Int), tab (fun k => [.s (barS (g16 a0 a1 a2 a3 a4 a5 a6 a7 a8 a9 a10 a11 a12 a13 a14 a15 k) (mxI (g16 a0 a1 a2 a3 a4 a5 a6 a7 a8 a9 a10 a11 a12 a13 a14 a15) 1 16) w)]) 16) := by unfold rba_L2_v loopRes; rw [j]; rfl
  unfold rba_res
  rw [d, p1, v1, p2, v2]
  rfl
theorem lgb_true : lgb_res a0 a1 a2 a3 a4 a5 a6 a7 a8 a9 a10 a11 a12 a13 a14 a15 w = some true := by
  have a := bas_is a0 a1 a2 a3 a4 a5 a6 a7 a8 a9 a10 a11 a12 a13 a14 a15 w0 w1 hb
  have b := rba_is a0 a1 a2 a3 a4 a5 a6 a7 a8 a9 a10 a11 a12 a13 a14 a15 w0 w1 hb
  have av : bas_v a0 a1 a2 a3 a4 a5 a6 a7 a8 a9 a10 a11 a12 a13 a14 a15 w = (0, tab (fun k => [.s (barS (g16 a0 a1 a2 a3 a4 a5 a6 a7 a8 a9 a10 a11 a12 a13 a14 a15 k) (mxI (g16 a0 a1 a2 a3 a4 a5 a6 a7 a8 a9 a10 a11 a12 a13 a14 a15) 1 16) w)]) 16) := by unfold bas_v; rw [a]; rfl
  have bv : rba_v a0 a1 a2 a3 a4 a5 a6 a7 a8 a9 a10 a11 a12 a13 a14 a15 w = tab (fun k => [.s (barS (g16 a0 a1 a2 a3 a4 a5 a6 a7 a8 a9 a10 a11 a12 a13 a14 a15 k) (mxI (g16 a0 a1 a2 a3 a4 a5 a6 a7 a8 a9 a10 a11 a12 a13 a14 a15) 1 16) w)]) 16 := by unfold rba_v; rw [b]; rfl
  have q0 : 1 ≤ mxI (g16 a0 a1 a2 a3 a4 a5 a6 a7 a8 a9 a10 a11 a12 a13 a14 a15) 1 16 := (mxI_ge 16).1
  have sz : ∀ k, k < 16 → ((rd (tab (fun k => [Ct.s (barS (g16 a0 a1 a2 a3 a4 a5 a6 a7 a8 a9 a10 a11 a12 a13 a14 a15 k) (mxI (g16 a0 a1 a2 a3 a4 a5 a6 a7 a8 a9 a10 a11 a12 a13 a14 a15) 1 16) w)]) 16) k 0).str.size : Int) = (((g16 a0 a1 a2 a3 a4 a5 a6 a7 a8 a9 a10 a11 a12 a13 a14 a15 k * w).tdiv (mxI (g16 a0 a1 a2 a3 a4 a5 a6 a7 a8 a9 a10 a11 a12 a13 a14 a15) 1 16)).toNat : Int) := by
    intro k hk
    rw [rd_tab hk]
    exact congrArg Int.ofNat (tms_size _ _)
  have i : iter (lgb_L0_step a0 a1 a2 a3 a4 a5 a6 a7 a8 a9 a10 a11 a12 a13 a14 a15 w) 17 (0, 0, 0) = some (mxI (g16 a0 a1 a2 a3 a4 a5 a6 a7 a8 a9 a10 a11 a12 a13 a14 a15) 0 16, mxI (fun k => (((g16 a0 a1 a2 a3 a4 a5 a6 a7 a8 a9 a10 a11 a12 a13 a14 a15 k * w).tdiv (mxI (g16 a0 a1 a2 a3 a4 a5 a6 a7 a8 a9 a10 a11 a12 a13 a14 a15) 1 16)).toNat : Int)) 0 16, 16) := by
    refine iter_run (fun k => (mxI (g16 a0 a1 a2 a3 a4 a5 a6 a7 a8 a9 a10 a11 a12 a13 a14 a15) 0 k, mxI (fun k => (((g16 a0 a1 a2 a3 a4 a5 a6 a7 a8 a9 a10 a11 a12 a13 a14 a15 k * w).tdiv (mxI (g16 a0 a1 a2 a3 a4 a5 a6 a7 a8 a9 a10 a11 a12 a13 a14 a15) 1 16)).toNat : Int)) 0 k, (k : Int))) (n := 16) rfl (fun k hk => ?_) ?_ (by omega)
    · simp only [lgb_L0_step, av, tab_length, Int.toNat_natCast, g16_rd a0 a1 a2 a3 a4 a5 a6 a7 a8 a9 a10 a11 a12 a13 a14 a15 hk, sz k hk]
      refine (cond_decI (by omega)).trans ?_
      refine (cond_decI (by omega)).trans ?_
      refine (cond_decI (by rw [nr_len a0 a1 a2 a3 a4 a5 a6 a7 a8 a9 a10 a11 a12 a13 a14 a15]; omega)).trans ?_
      rw [wrap_succ (by omega)]
      rfl
    · simp only [lgb_L0_step, av, tab_length]
      exact cond_notI (by omega)
  have p : lgb_L0_p a0 a1 a2 a3 a4 a5 a6 a7 a8 a9 a10 a11 a12 a13 a14 a15 w = true := by unfold lgb_L0_p; rw [i]; rfl
  have v : lgb_L0_v a0 a1 a2 a3 a4 a5 a6 a7 a8 a9 a10 a11 a12 a13 a14 a15 w = (mxI (g16 a0 a1 a2 a3 a4 a5 a6 a7 a8 a9 a10 a11 a12 a13 a14 a15) 0 16, mxI (fun k => (((g16 a0 a1 a2 a3 a4 a5 a6 a7 a8 a9 a10 a11 a12 a13 a14 a15 k * w).tdiv (mxI (g16 a0 a1 a2 a3 a4 a5 a6 a7 a8 a9 a10 a11 a12 a13 a14 a15) 1 16)).toNat : Int)) 0 16, 16) := by unfold lgb_L0_v loopRes; rw [i]; rfl
  have cs : lgb_c52891108 a0 a1 a2 a3 a4 a5 a6 a7 a8 a9 a10 a11 a12 a13 a14 a15 w = true := by unfold lgb_c52891108; rw [av, bv]; exact sam_vrefl _ (by rw [tab_length]; omega)
  have sr : sam_res (bas_v a0 a1 a2 a3 a4 a5 a6 a7 a8 a9 a10 a11 a12 a13 a14 a15 w).snd (rba_v a0 a1 a2 a3 a4 a5 a6 a7 a8 a9 a10 a11 a12 a13 a14 a15 w) = some true := by rw [av, bv]; exact sam_refl _ (by rw [tab_length]; omega)
  have fin : (bif mxI (g16 a0 a1 a2 a3 a4 a5 a6 a7 a8 a9 a10 a11 a12 a13 a14 a15) 0 16 == (0 : Int) then true else mxI (fun k => (((g16 a0 a1 a2 a3 a4 a5 a6 a7 a8 a9 a10 a11 a12 a13 a14 a15 k * w).tdiv (mxI (g16 a0 a1 a2 a3 a4 a5 a6 a7 a8 a9 a10 a11 a12 a13 a14 a15) 1 16)).toNat : Int)) 0 16 == w) = true := by
    rcases mxI_is (g := g16 a0 a1 a2 a3 a4 a5 a6 a7 a8 a9 a10 a11 a12 a13 a14 a15) (s := 0) 16 with h | ⟨j, hj, h⟩
    · rw [h]; rfl
    · by_cases z : mxI (g16 a0 a1 a2 a3 a4 a5 a6 a7 a8 a9 a10 a11 a12 a13 a14 a15) 0 16 = 0
      · rw [z]; rfl
      · have one : mxI (g16 a0 a1 a2 a3 a4 a5 a6 a7 a8 a9 a10 a11 a12 a13 a14 a15) 1 16 = mxI (g16 a0 a1 a2 a3 a4 a5 a6 a7 a8 a9 a10 a11 a12 a13 a14 a15) 0 16 := by
          have h1 := mxI_one (g := g16 a0 a1 a2 a3 a4 a5 a6 a7 a8 a9 a10 a11 a12 a13 a14 a15) 16
          have h2 := (mxI_ge (g := g16 a0 a1 a2 a3 a4 a5 a6 a7 a8 a9 a10 a11 a12 a13 a14 a15) (s := 0) 16).1
          rw [h1]; split <;> omega
        have ub : mxI (fun k => (((g16 a0 a1 a2 a3 a4 a5 a6 a7 a8 a9 a10 a11 a12 a13 a14 a15 k * w).tdiv (mxI (g16 a0 a1 a2 a3 a4 a5 a6 a7 a8 a9 a10 a11 a12 a13 a14 a15) 1 16)).toNat : Int)) 0 16 ≤ w := by
          rcases mxI_is (g := fun k => (((g16 a0 a1 a2 a3 a4 a5 a6 a7 a8 a9 a10 a11 a12 a13 a14 a15 k * w).tdiv (mxI (g16 a0 a1 a2 a3 a4 a5 a6 a7 a8 a9 a10 a11 a12 a13 a14 a15) 1 16)).toNat : Int)) (s := 0) 16 with h' | ⟨j', hj', h'⟩
          · omega
          · rw [← h']
            obtain ⟨g0, g1⟩ := good16 a0 a1 a2 a3 a4 a5 a6 a7 a8 a9 a10 a11 a12 a13 a14 a15 hb hj'
            have := (bar_in g0 g1 w0 w1 q0).2.2.1 ((mxI_ge 16).2 j' hj')
            omega
        have lb : w ≤ mxI (fun k => (((g16 a0 a1 a2 a3 a4 a5 a6 a7 a8 a9 a10 a11 a12 a13 a14 a15 k * w).tdiv (mxI (g16 a0 a1 a2 a3 a4 a5 a6 a7 a8 a9 a10 a11 a12 a13 a14 a15) 1 16)).toNat : Int)) 0 16 := by
          have h3 := (mxI_ge (g := fun k => (((g16 a0 a1 a2 a3 a4 a5 a6 a7 a8 a9 a10 a11 a12 a13 a14 a15 k * w).tdiv (mxI (g16 a0 a1 a2 a3 a4 a5 a6 a7 a8 a9 a10 a11 a12 a13 a14 a15) 1 16)).toNat : Int)) (s := 0) 16).2 j hj
          obtain ⟨g0, g1⟩ := good16 a0 a1 a2 a3 a4 a5 a6 a7 a8 a9 a10 a11 a12 a13 a14 a15 hb hj
          have := (bar_in g0 g1 w0 w1 q0).2.2.2 (by rw [one]; exact h)
          omega
        have e : (mxI (fun k => (((g16 a0 a1 a2 a3 a4 a5 a6 a7 a8 a9 a10 a11 a12 a13 a14 a15 k * w).tdiv (mxI (g16 a0 a1 a2 a3 a4 a5 a6 a7 a8 a9 a10 a11 a12 a13 a14 a15) 1 16)).toNat : Int)) 0 16 == w) = true := beq_iff_eq.2 (by omega)
        rw [e, cond_same]
  unfold lgb_res
  rw [p, v, a, b, cs, sr, av, bv]
  refine (cond_decI (by rw [nr_len a0 a1 a2 a3 a4 a5 a6 a7 a8 a9 a10 a11 a12 a13 a14 a15]; omega)).trans ?_
  refine (cond_true _ _).trans ?_
  refine (cond_decI (by rw [nr_len a0 a1 a2 a3 a4 a5 a6 a7 a8 a9 a10 a11 a12 a13 a14 a15]; omega)).trans ?_
  refine (cond_true _ _).trans ?_
  rw [decide_eq_true (show 0 < (tab (fun k => [Ct.s (barS (g16 a0 a1 a2 a3 a4 a5 a6 a7 a8 a9 a10 a11 a12 a13 a14 a15 k) (mxI (g16 a0 a1 a2 a3 a4 a5 a6 a7 a8 a9 a10 a11 a12 a13 a14 a15) 1 16) w)]) 16).length by rw [tab_length]; omega)]
  exact congrArg some fin
end
theorem lgb_call (w : Int) : CallOk Try.prog 4 [.sv (.agg [.val false (.int .i64 a0), .val false (.int .i64 a1), .val false (.int .i64 a2), .val false (.int .i64 a3), .val false (.int .i64 a4), .val false (.int .i64 a5), .val false (.int .i64 a6), .val false (.int .i64 a7), .val false (.int .i64 a8), .val false (.int .i64 a9), .val false (.int .i64 a10), .val false (.int .i64 a11), .val false (.int .i64 a12), .val false (.int .i64 a13), .val false (.int .i64 a14), .val false (.int .i64 a15)]), .sv (.one (.val false (.int .i64 w)))] [] 0 (lgb_O true) := by
  by_cases h : noBars a0 a1 a2 a3 a4 a5 a6 a7 a8 a9 a10 a11 a12 a13 a14 a15 w
  · exact lgn_tree (lgn_true a0 a1 a2 a3 a4 a5 a6 a7 a8 a9 a10 a11 a12 a13 a14 a15 h)
  · have h1 : ¬ (w < 1 ∨ w > 100) := fun c => h (.inl c)
    have h2 : (findB (badG (g16 a0 a1 a2 a3 a4 a5 a6 a7 a8 a9 a10 a11 a12 a13 a14 a15)) 16 0).isSome = false := by
      cases c : (findB (badG (g16 a0 a1 a2 a3 a4 a5 a6 a7 a8 a9 a10 a11 a12 a13 a14 a15)) 16 0).isSome with
      | false => rfl
      | true => exact absurd (.inr c) h
    exact lgb_tree (lgb_true a0 a1 a2 a3 a4 a5 a6 a7 a8 a9 a10 a11 a12 a13 a14 a15 (by omega) (by omega) h2)
end
end Go.Proofs.Ytjjijaeoafeocaa
