/- Exchange and turn of parts, told by where each row comes from. No condition. -/
import Derived.Test.YtmpaelkjooahoaaEngOrbitY
import Derived.Test.YtmpaelkjooahoaaSymP
set_option linter.unusedVariables false
set_option linter.unusedSimpArgs false
namespace Go.Proofs.Ytmpaelkjooahoaa
open Go.RowKit

theorem swr_it {l : List (List Ct)} {a b n : Nat} (hab : a + n ≤ b) (hb : b + n ≤ l.length) (hl : l.length ≤ 1048576) : ∃ c r, iter (swr_L0_step a b n) (n + 1) (0, l) = some (c, r) ∧ r.length = l.length ∧ ∀ k, kA r k = kA l (swpI a b n k) := by
  obtain ⟨⟨c, r⟩, h1, h2⟩ := iter_inv (step := swr_L0_step a b n) (fun v => ∃ i : Nat, i ≤ n ∧ v.1 = (i : Int) ∧ v.2.length = l.length ∧ ∀ k, kA v.2 k = kA l (swpI a b i k)) (fun r => r.2.length = l.length ∧ ∀ k, kA r.2 k = kA l (swpI a b n k)) (fun v => n - v.1.toNat) (fun v => by
      rintro ⟨i, hi, hv, hvl, hvk⟩
      obtain ⟨vi, vl⟩ := v
      simp only at hv hvl hvk
      subst hv
      by_cases hin : i < n
      · left
        have w := wrap_succ (k := i) (by omega)
        have w1 : IntKind.i64.wrap ((a : Int) + (i : Int)) = ((a + i : Nat) : Int) := by rw [wrap_in (by omega) (by omega)]; omega
        have w2 : IntKind.i64.wrap ((b : Int) + (i : Int)) = ((b + i : Nat) : Int) := by rw [wrap_in (by omega) (by omega)]; omega
        have q : (i : Int) < (n : Int) := by omega
        have q1 : (0 : Int) ≤ ((a + i : Nat) : Int) ∧ ((a + i : Nat) : Int) < (vl.length : Int) := by omega
        have q2 : (0 : Int) ≤ ((b + i : Nat) : Int) ∧ ((b + i : Nat) : Int) < (vl.length : Int) := by omega
        refine ⟨_, by simp only [swr_L0_step, cond_dec q, w1, w2, cond_dec q1, cond_dec q2, Int.toNat_natCast, List.length_set, upd4, w]; rfl, ⟨i + 1, by omega, rfl, by simp [hvl], fun k => ?_⟩, by simp only [Int.toNat_natCast]; omega⟩
        simp only
        rw [kA_swap (p := a + i) (q := b + i) (by omega) (by omega), hvk, swp_succ (by omega)]
      · right
        obtain rfl : i = n := by omega
        have q : ¬ ((i : Int) < (i : Int)) := by omega
        exact ⟨((i : Int), vl), by simp only [swr_L0_step, cond_not q], hvl, hvk⟩) (n + 1) (0, l) ⟨0, by omega, rfl, rfl, fun k => by
      have e : swpI a b 0 k = k := by
        unfold swpI
        repeat' split
        all_goals omega
      rw [e]⟩ (by simp)
  exact ⟨c, r, h1, h2⟩
theorem swr_ok {l : List (List Ct)} {a b n : Nat} (hab : a + n ≤ b) (hb : b + n ≤ l.length) (hl : l.length ≤ 1048576) : ∃ r, swr_res l a b n = some r ∧ swr_v l a b n = r ∧ r.length = l.length ∧ ∀ k, kA r k = kA l (swpI a b n k) := by
  obtain ⟨c, r, h1, h2, h3⟩ := swr_it hab hb hl
  have e : swr_res l a b n = some r := by unfold swr_res swr_L0_p swr_L0_v loopRes; rw [Int.toNat_natCast, h1]; rfl
  exact ⟨r, e, by unfold swr_v; rw [e]; rfl, h2, h3⟩
theorem rot_ok {l : List (List Ct)} {a m b : Nat} (h1 : a < m) (h2 : m < b) (hb : b ≤ l.length) (hl : l.length ≤ 1048576) : ∃ r, rot_res l a m b = some r ∧ rot_v l a m b = r ∧ r.length = l.length ∧ ∀ k, kA r k = kA l (rotI a m b k) := by
  have w1 : IntKind.i64.wrap ((m : Int) - (a : Int)) = ((m - a : Nat) : Int) := by rw [wrap_in (by omega) (by omega)]; omega
  have w2 : IntKind.i64.wrap ((b : Int) - (m : Int)) = ((b - m : Nat) : Int) := by rw [wrap_in (by omega) (by omega)]; omega
  obtain ⟨⟨c, d, r⟩, g1, i, hi0, hi1, hc, hd, hrl, hrk⟩ := iter_inv (step := rot_L0_step m) (fun v => ∃ i j : Nat, 0 < i ∧ 0 < j ∧ i ≤ m - a ∧ j ≤ b - m ∧ v.1 = (i : Int) ∧ v.2.1 = (j : Int) ∧ v.2.2.length = l.length ∧ ∀ k, kA v.2.2 (rotI (m - i) m (m + j) k) = kA l (rotI a m b k)) (fun r => ∃ i : Nat, 0 < i ∧ (i ≤ m - a ∧ i ≤ b - m) ∧ r.1 = (i : Int) ∧ r.2.1 = (i : Int) ∧ r.2.2.length = l.length ∧ ∀ k, kA r.2.2 (rotI (m - i) m (m + i) k) = kA l (rotI a m b k)) (fun v => v.1.toNat + v.2.1.toNat) (fun v => by
      rintro ⟨i, j, i0, j0, i1, j1, hv1, hv2, hvl, hvk⟩
      obtain ⟨vi, vj, vl⟩ := v
      simp only at hv1 hv2 hvl hvk
      subst hv1 hv2
      by_cases hij : i = j
      · right
        subst hij
        exact ⟨((i : Int), (i : Int), vl), by simp only [rot_L0_step, bne_self_eq_false, cond_false], i, i0, ⟨i1, j1⟩, rfl, rfl, hvl, hvk⟩
      · left
        have q : ((i : Int) != (j : Int)) = true := by simp; omega
        have w3 : IntKind.i64.wrap ((m : Int) - (i : Int)) = ((m - i : Nat) : Int) := by rw [wrap_in (by omega) (by omega)]; omega
        by_cases hlt : j < i
        · have q2 : (i : Int) > (j : Int) := by omega
          have w4 : IntKind.i64.wrap ((i : Int) - (j : Int)) = ((i - j : Nat) : Int) := by rw [wrap_in (by omega) (by omega)]; omega
          obtain ⟨r, r1, r2, r3, r4⟩ := swr_ok (l := vl) (a := m - i) (b := m) (n := j) (by omega) (by omega) (by omega)
          refine ⟨_, by simp only [rot_L0_step, q, cond_true, cond_dec q2, w3, w4, r1, r2, Option.isSome_some]; rfl, ⟨i - j, j, by omega, by omega, by omega, by omega, rfl, rfl, by rw [r3, hvl], fun k => ?_⟩, by simp only [Int.toNat_natCast]; omega⟩
          simp only
          rw [r4, show m - (i - j) = m - i + j by omega, rot_left (a := a) (by omega) hlt (by omega), hvk]
        · have q2 : ¬ ((i : Int) > (j : Int)) := by omega
          have w4 : IntKind.i64.wrap ((j : Int) - (i : Int)) = ((j - i : Nat) : Int) := by rw [wrap_in (by omega) (by omega)]; omega
          have w5 : IntKind.i64.wrap (IntKind.i64.wrap ((m : Int) + (j : Int)) - (i : Int)) = ((m + j - i : Nat) : Int) := by rw [wrap_in (n := (m : Int) + (j : Int)) (by omega) (by omega), wrap_in (by omega) (by omega)]; omega
          obtain ⟨r, r1, r2, r3, r4⟩ := swr_ok (l := vl) (a := m - i) (b := m + j - i) (n := i) (by omega) (by omega) (by omega)
          refine ⟨_, by simp only [rot_L0_step, q, cond_true, cond_not q2, w3, w4, w5, r1, r2, Option.isSome_some]; rfl, ⟨i, j - i, by omega, by omega, by omega, by omega, rfl, rfl, by rw [r3, hvl], fun k => ?_⟩, by simp only [Int.toNat_natCast]; omega⟩
          simp only
          rw [r4, rot_right (a := a) (by omega) (by omega) (by omega), hvk]) (b + 1) (((m - a : Nat) : Int), ((b - m : Nat) : Int), l) ⟨m - a, b - m, by omega, by omega, by omega, by omega, rfl, rfl, rfl, fun k => by rw [show m - (m - a) = a by omega, show m + (b - m) = b by omega]⟩ (by simp only [Int.toNat_natCast]; omega)
  simp only at hc hd hrl hrk
  subst hc hd
  have w3 : IntKind.i64.wrap ((m : Int) - (i : Int)) = ((m - i : Nat) : Int) := by rw [wrap_in (by omega) (by omega)]; omega
  obtain ⟨s, s1, s2, s3, s4⟩ := swr_ok (l := r) (a := m - i) (b := m) (n := i) (by omega) (by omega) (by omega)
  have e : rot_res l a m b = some s := by
    unfold rot_res rot_L0_p rot_L0_v loopRes
    rw [Int.toNat_natCast, w1, w2, g1]
    simp only [Option.isSome_some, Option.getD_some, cond_true, w3, s1, s2]
  refine ⟨s, e, by unfold rot_v; rw [e]; rfl, by rw [s3, hrl], fun k => ?_⟩
  rw [s4, rot_same (by omega), hrk]
end Go.Proofs.Ytmpaelkjooahoaa
