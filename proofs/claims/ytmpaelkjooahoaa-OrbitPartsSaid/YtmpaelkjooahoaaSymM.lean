/- The merge of two sorted parts: the same rows, sorted. No condition. -/
import Derived.Test.YtmpaelkjooahoaaSymL
import Derived.Test.YtmpaelkjooahoaaEngOrbitI
set_option linter.unusedVariables false
set_option linter.unusedSimpArgs false
namespace Go.Proofs.Ytmpaelkjooahoaa
open Go.RowKit

theorem half_is {i j : Nat} (h : i + j ≤ 4194304) : IntKind.i64.wrap ((IntKind.u64.wrap (IntKind.i64.wrap ((i : Int) + (j : Int)))).fdiv ((2 : Int) ^ min (Int.toNat (1 : Int)) IntKind.u64.bits)) = (((i + j) / 2 : Nat) : Int) := by
  rw [show (2 : Int) ^ min (Int.toNat (1 : Int)) IntKind.u64.bits = 2 from rfl, wrap_in (n := (i : Int) + j) (by omega) (by omega)]
  have u : IntKind.u64.wrap ((i : Int) + j) = (i : Int) + j := by
    simp only [IntKind.wrap, IntKind.bits, IntKind.signed, Bool.false_and]
    rw [if_neg (by simp)]
    omega
  rw [u, Int.fdiv_eq_ediv_of_nonneg _ (by omega), wrap_in (by omega) (by omega)]
  omega
/-- A search by halves. -/
theorem bs_iter {step : Int × Int → Option ((Int × Int) ⊕ (Int × Int))} {P : Nat → Prop} {s0 r0 : Nat} (h0 : s0 ≤ r0) (mono : ∀ i j, s0 ≤ i → i ≤ j → j < r0 → P i → P j)
    (hin : ∀ i j h : Nat, s0 ≤ i → i < j → j ≤ r0 → h = (i + j) / 2 → (P h → step ((i : Int), (j : Int)) = some (.inl ((i : Int), (h : Int)))) ∧ (¬ P h → step ((i : Int), (j : Int)) = some (.inl (((h + 1 : Nat) : Int), (j : Int)))))
    (hout : ∀ i : Nat, step ((i : Int), (i : Int)) = some (.inr ((i : Int), (i : Int)))) {fuel : Nat} (hf : r0 - s0 < fuel) :
    ∃ s : Nat, iter step fuel ((s0 : Int), (r0 : Int)) = some ((s : Int), (s : Int)) ∧ s0 ≤ s ∧ s ≤ r0 ∧ (∀ k, s0 ≤ k → k < s → ¬ P k) ∧ ∀ k, s ≤ k → k < r0 → P k := by
  obtain ⟨r, h1, s, rfl, h2⟩ := iter_inv (step := step) (fun v => ∃ i j : Nat, v = ((i : Int), (j : Int)) ∧ s0 ≤ i ∧ i ≤ j ∧ j ≤ r0 ∧ (∀ k, s0 ≤ k → k < i → ¬ P k) ∧ ∀ k, j ≤ k → k < r0 → P k)
    (fun r => ∃ s : Nat, r = ((s : Int), (s : Int)) ∧ s0 ≤ s ∧ s ≤ r0 ∧ (∀ k, s0 ≤ k → k < s → ¬ P k) ∧ ∀ k, s ≤ k → k < r0 → P k) (fun v => v.2.toNat - v.1.toNat) (fun v => by
      rintro ⟨i, j, rfl, hi, hij, hj, n1, n2⟩
      by_cases he : i = j
      · subst he
        exact .inr ⟨_, hout i, i, rfl, hi, hj, n1, n2⟩
      · left
        have hh := hin i j ((i + j) / 2) hi (by omega) hj rfl
        generalize hm : (i + j) / 2 = m at hh
        by_cases c : P m
        · exact ⟨_, hh.1 c, ⟨i, m, rfl, hi, by omega, by omega, n1, fun k k1 k2 => mono m k (by omega) k1 k2 c⟩, by simp only [Int.toNat_natCast]; omega⟩
        · exact ⟨_, hh.2 c, ⟨m + 1, j, rfl, by omega, by omega, hj, fun k k1 k2 hk => c (mono k m k1 (by omega) (by omega) hk), n2⟩, by simp only [Int.toNat_natCast]; omega⟩) fuel ((s0 : Int), (r0 : Int)) ⟨s0, r0, rfl, Nat.le_refl _, h0, Nat.le_refl _, fun k k1 k2 => by omega, fun k k1 k2 => by omega⟩ (by simp only [Int.toNat_natCast]; exact hf)
  exact ⟨s, h1, h2⟩
section
variable {l : List (List Ct)} {a m b : Nat} (h2 : m < b) (hb : b ≤ l.length) (hl : l.length ≤ 1048576) (sA : Srt a m l) (sB : Srt m b l)
include h2 hb hl sB in
theorem sym_one (ha : m = a + 1) : ∃ r, (bif (sym_L0_p l a m b) then bif (sym_L2_p l a m b) then some ((sym_L2_v l a m b).snd) else none else none) = some r ∧ Sam a b l r ∧ Srt a b r := by
  obtain ⟨s, g1, g2, g3, g4, g5⟩ := bs_iter (step := sym_L0_step l a) (P := fun k => ¬ (kA l k).1 < (kA l a).1) (s0 := m) (r0 := b) (by omega) (fun i j i1 i2 i3 hi hj => by have := sB.le i1 i2 i3; omega) (fun i j h i1 i2 i3 hh => by
      have w := half_is (i := i) (j := j) (by omega)
      rw [← hh] at w
      have q : (i : Int) < (j : Int) := by omega
      have q1 : (0 : Int) ≤ (h : Int) ∧ (h : Int) < (l.length : Int) := by omega
      have q2 : (0 : Int) ≤ (a : Int) ∧ (a : Int) < (l.length : Int) := by omega
      have w1 : IntKind.i64.wrap ((h : Int) + 1) = ((h + 1 : Nat) : Int) := by rw [wrap_in (by omega) (by omega)]; omega
      refine ⟨fun c => ?_, fun c => ?_⟩
      · have c' : ¬ (rd l h 0).int < (rd l a 0).int := c
        by_cases c2 : (rd l h 0).int > (rd l a 0).int
        · simp only [sym_L0_step, cond_dec q, w, cond_dec q1, cond_dec q2, Int.toNat_natCast, cond_not c', cond_dec c2]
        · simp only [sym_L0_step, cond_dec q, w, cond_dec q1, cond_dec q2, Int.toNat_natCast, cond_not c', cond_not c2]
      · have c' : (rd l h 0).int < (rd l a 0).int := Classical.not_not.1 c
        simp only [sym_L0_step, cond_dec q, w, cond_dec q1, cond_dec q2, Int.toNat_natCast, cond_dec c', w1]) (fun i => by
      have q : ¬ ((i : Int) < (i : Int)) := by omega
      simp only [sym_L0_step, cond_not q]) (fuel := b + 1) (by omega)
  have p0 : sym_L0_p l a m b = true := by unfold sym_L0_p; rw [Int.toNat_natCast, g1]; rfl
  have v0 : sym_L0_v l a m b = ((s : Int), (s : Int)) := by unfold sym_L0_v loopRes; rw [Int.toNat_natCast, g1]; rfl
  have w0 : IntKind.i64.wrap ((s : Int) - 1) = ((s - 1 : Nat) : Int) := by rw [wrap_in (by omega) (by omega)]; omega
  obtain ⟨⟨c, r⟩, k1, k2, k3⟩ := iter_inv (step := sym_L2_step l a m b) (fun v => ∃ j : Nat, v.1 = (j : Int) ∧ a ≤ j ∧ j ≤ s - 1 ∧ v.2.length = l.length ∧ ∀ k, kA v.2 k = kA l (rotI a m (j + 1) k)) (fun r => r.2.length = l.length ∧ ∀ k, kA r.2 k = kA l (rotI a m s k)) (fun v => s - v.1.toNat) (fun v => by
      rintro ⟨j, hv, j1, j2, hvl, hvk⟩
      obtain ⟨vi, vl⟩ := v
      simp only at hv hvl hvk
      subst hv
      by_cases hj : j < s - 1
      · left
        have q : (j : Int) < ((s - 1 : Nat) : Int) := by omega
        have w := wrap_succ (k := j) (by omega)
        have q1 : (0 : Int) ≤ ((j + 1 : Nat) : Int) ∧ ((j + 1 : Nat) : Int) < (vl.length : Int) := by omega
        have q2 : (0 : Int) ≤ (j : Int) ∧ (j : Int) < (vl.length : Int) := by omega
        refine ⟨_, by simp only [sym_L2_step, v0, w0, cond_dec q, w, cond_dec q1, cond_dec q2, Int.toNat_natCast, List.length_set, upd4]; rfl, ⟨j + 1, rfl, by omega, by omega, by simp [hvl], fun k => ?_⟩, by simp only [Int.toNat_natCast]; omega⟩
        simp only
        rw [kA_swap (p := j) (q := j + 1) (by omega) (by omega), hvk]
        congr 1
        unfold rotI
        repeat' split
        all_goals omega
      · right
        obtain rfl : j = s - 1 := by omega
        have q : ¬ (((s - 1 : Nat) : Int) < ((s - 1 : Nat) : Int)) := by omega
        exact ⟨(((s - 1 : Nat) : Int), vl), by simp only [sym_L2_step, v0, w0, cond_not q], hvl, by rwa [show s - 1 + 1 = s by omega] at hvk⟩) (b + 1) ((a : Int), l) ⟨a, rfl, Nat.le_refl _, by omega, rfl, fun k => by
        have e : rotI a m (a + 1) k = k := by
          unfold rotI
          repeat' split
          all_goals omega
        rw [e]⟩ (by simp only [Int.toNat_natCast]; omega)
  have p2 : sym_L2_p l a m b = true := by unfold sym_L2_p; rw [Int.toNat_natCast, k1]; rfl
  have v2 : (sym_L2_v l a m b).2 = r := by unfold sym_L2_v loopRes; rw [Int.toNat_natCast, k1]; rfl
  simp only at k2 k3
  refine ⟨r, by rw [p0, p2, v2]; rfl, (sam_rot (by omega) g2 k2 k3).wide (Nat.le_refl _) g3, fun p q hp hpq hq => ?_⟩
  rw [k3, k3]
  have lo : ∀ k, m ≤ k → k < s → (kA l k).1 ≤ (kA l a).1 := fun k e1 e2 => by have := Classical.not_not.1 (g4 k e1 e2); omega
  have hi : ∀ k, s ≤ k → k < b → (kA l a).1 ≤ (kA l k).1 := fun k e1 e2 => by have := g5 k e1 e2; omega
  have cp : (rotI a m s p = p + 1 ∧ p + 1 < s) ∨ (rotI a m s p = a ∧ p + 1 = s) ∨ (rotI a m s p = p ∧ s ≤ p) := by
    unfold rotI
    repeat' split
    all_goals omega
  have cq : (rotI a m s q = q + 1 ∧ q + 1 < s) ∨ (rotI a m s q = a ∧ q + 1 = s) ∨ (rotI a m s q = q ∧ s ≤ q) := by
    unfold rotI
    repeat' split
    all_goals omega
  rcases cp with ⟨e1, e2⟩ | ⟨e1, e2⟩ | ⟨e1, e2⟩ <;> rcases cq with ⟨f1, f2⟩ | ⟨f1, f2⟩ | ⟨f1, f2⟩ <;> rw [e1, f1]
  · exact sB.le (by omega) (by omega) (by omega)
  · exact lo _ (by omega) (by omega)
  · exact sB.le (by omega) (by omega) (by omega)
  · omega
  · omega
  · exact hi _ (by omega) (by omega)
  · omega
  · omega
  · exact sB.le (by omega) (by omega) (by omega)
end
section
variable {l : List (List Ct)} {a m b : Nat} (h1 : a < m) (hb : b ≤ l.length) (hl : l.length ≤ 1048576) (sA : Srt a m l)
include h1 hb hl sA
theorem sym_last (hm : b = m + 1) : ∃ r, (bif (sym_L4_p l a m b) then bif (sym_L6_p l a m b) then some ((sym_L6_v l a m b).snd) else none else none) = some r ∧ Sam a b l r ∧ Srt a b r := by
  obtain ⟨s, g1, g2, g3, g4, g5⟩ := bs_iter (step := sym_L4_step l m) (P := fun k => (kA l m).1 < (kA l k).1) (s0 := a) (r0 := m) (by omega) (fun i j i1 i2 i3 hi => by have := sA.le i1 i2 i3; omega) (fun i j h i1 i2 i3 hh => by
      have w := half_is (i := i) (j := j) (by omega)
      rw [← hh] at w
      have q : (i : Int) < (j : Int) := by omega
      have q1 : (0 : Int) ≤ (h : Int) ∧ (h : Int) < (l.length : Int) := by omega
      have q2 : (0 : Int) ≤ (m : Int) ∧ (m : Int) < (l.length : Int) := by omega
      have w1 : IntKind.i64.wrap ((h : Int) + 1) = ((h + 1 : Nat) : Int) := by rw [wrap_in (by omega) (by omega)]; omega
      refine ⟨fun c => ?_, fun c => ?_⟩
      · have c' : (rd l m 0).int < (rd l h 0).int := c
        simp only [sym_L4_step, cond_dec q, w, cond_dec q1, cond_dec q2, Int.toNat_natCast, cond_dec c']
      · have c' : ¬ (rd l m 0).int < (rd l h 0).int := c
        by_cases c2 : (rd l m 0).int > (rd l h 0).int
        · simp only [sym_L4_step, cond_dec q, w, cond_dec q1, cond_dec q2, Int.toNat_natCast, cond_not c', cond_dec c2, w1]
        · simp only [sym_L4_step, cond_dec q, w, cond_dec q1, cond_dec q2, Int.toNat_natCast, cond_not c', cond_not c2, w1]) (fun i => by
      have q : ¬ ((i : Int) < (i : Int)) := by omega
      simp only [sym_L4_step, cond_not q]) (fuel := b + 1) (by omega)
  have p0 : sym_L4_p l a m b = true := by unfold sym_L4_p; rw [Int.toNat_natCast, g1]; rfl
  have v0 : sym_L4_v l a m b = ((s : Int), (s : Int)) := by unfold sym_L4_v loopRes; rw [Int.toNat_natCast, g1]; rfl
  obtain ⟨⟨c, r⟩, k1, k2, k3⟩ := iter_inv (step := sym_L6_step l a m b) (fun v => ∃ j : Nat, v.1 = (j : Int) ∧ s ≤ j ∧ j ≤ m ∧ v.2.length = l.length ∧ ∀ k, kA v.2 k = kA l (rotI j m b k)) (fun r => r.2.length = l.length ∧ ∀ k, kA r.2 k = kA l (rotI s m b k)) (fun v => v.1.toNat) (fun v => by
      rintro ⟨j, hv, j1, j2, hvl, hvk⟩
      obtain ⟨vi, vl⟩ := v
      simp only at hv hvl hvk
      subst hv
      by_cases hj : s < j
      · left
        have q : (j : Int) > (s : Int) := by omega
        have w : IntKind.i64.wrap ((j : Int) - 1) = ((j - 1 : Nat) : Int) := by rw [wrap_in (by omega) (by omega)]; omega
        have q1 : (0 : Int) ≤ ((j - 1 : Nat) : Int) ∧ ((j - 1 : Nat) : Int) < (vl.length : Int) := by omega
        have q2 : (0 : Int) ≤ (j : Int) ∧ (j : Int) < (vl.length : Int) := by omega
        refine ⟨_, by simp only [sym_L6_step, v0, cond_dec q, w, cond_dec q1, cond_dec q2, Int.toNat_natCast, List.length_set, upd4]; rfl, ⟨j - 1, rfl, by omega, by omega, by simp [hvl], fun k => ?_⟩, by simp only [Int.toNat_natCast]; omega⟩
        simp only
        rw [kA_swap (p := j) (q := j - 1) (by omega) (by omega), hvk]
        congr 1
        unfold rotI
        repeat' split
        all_goals omega
      · right
        obtain rfl : j = s := by omega
        have q : ¬ ((j : Int) > (j : Int)) := by omega
        exact ⟨((j : Int), vl), by simp only [sym_L6_step, v0, cond_not q], hvl, hvk⟩) (b + 1) ((m : Int), l) ⟨m, rfl, g3, Nat.le_refl _, rfl, fun k => by
        have e : rotI m m b k = k := by
          unfold rotI
          repeat' split
          all_goals omega
        rw [e]⟩ (by simp only [Int.toNat_natCast]; omega)
  have p2 : sym_L6_p l a m b = true := by unfold sym_L6_p; rw [Int.toNat_natCast, k1]; rfl
  have v2 : (sym_L6_v l a m b).2 = r := by unfold sym_L6_v loopRes; rw [Int.toNat_natCast, k1]; rfl
  simp only at k2 k3
  refine ⟨r, by rw [p0, p2, v2]; rfl, (sam_rot g3 (by omega) k2 k3).wide g2 (Nat.le_refl _), fun p q hp hpq hq => ?_⟩
  rw [k3, k3]
  have lo : ∀ k, a ≤ k → k < s → (kA l k).1 ≤ (kA l m).1 := fun k e1 e2 => by have := g4 k e1 e2; omega
  have hi : ∀ k, s ≤ k → k < m → (kA l m).1 ≤ (kA l k).1 := fun k e1 e2 => by have := g5 k e1 e2; omega
  have cp : ∀ p, p < b → (rotI s m b p = p ∧ p < s) ∨ (rotI s m b p = m ∧ p = s) ∨ (rotI s m b p = p - 1 ∧ s < p) := fun p hp => by
    unfold rotI
    repeat' split
    all_goals omega
  rcases cp p (by omega) with ⟨e1, e2⟩ | ⟨e1, e2⟩ | ⟨e1, e2⟩ <;> rcases cp q hq with ⟨f1, f2⟩ | ⟨f1, f2⟩ | ⟨f1, f2⟩ <;> rw [e1, f1]
  · exact sA.le (by omega) (by omega) (by omega)
  · exact lo _ (by omega) (by omega)
  · exact sA.le (by omega) (by omega) (by omega)
  · omega
  · exact Int.le_refl _
  · exact hi _ (by omega) (by omega)
  · omega
  · omega
  · exact sA.le (by omega) (by omega) (by omega)
end
end Go.Proofs.Ytmpaelkjooahoaa
