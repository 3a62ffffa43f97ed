/- The merge of two sorted parts, its middle: the same rows, sorted. No condition. -/
import Derived.Test.YtmpaelkjooahoaaSymM
set_option linter.unusedVariables false
set_option linter.unusedSimpArgs false
namespace Go.Proofs.Ytmpaelkjooahoaa
open Go.RowKit

theorem and_dec {p q : Prop} [Decidable p] [Decidable q] {p' q' : Prop} [Decidable p'] [Decidable q'] (hp : p ↔ p') (hq : q ↔ q') : (bif decide p then decide q else false) = decide (p' ∧ q') := by
  by_cases h1 : p' <;> by_cases h2 : q' <;> simp [hp, hq, h1, h2]
section
variable {l : List (List Ct)} {a m b mid : Nat} (hmid : mid = (a + b) / 2) (h1 : a < m) (h2 : m < b) (hb : b ≤ l.length) (hl : l.length ≤ 1048576) (sA : Srt a m l) (sB : Srt m b l)
include hmid h1 h2 hb hl sA sB
theorem sym_find : ∃ s : Nat, sym_L8_p l a m b = true ∧ (sym_L8_v l a m b).1 = (s : Int) ∧ a ≤ s ∧ s ≤ m ∧ s ≤ mid ∧ mid + m - s ≤ b ∧ (a < s → mid + m - s < b → (kA l (s - 1)).1 ≤ (kA l (mid + m - s)).1) ∧ (s < m → s < mid → (kA l (mid + m - s - 1)).1 ≤ (kA l s).1) := by
  have hw := half_is (i := a) (j := b) (by omega)
  rw [← hmid] at hw
  have w1 : IntKind.i64.wrap ((mid : Int) + (m : Int)) = ((mid + m : Nat) : Int) := by rw [wrap_in (by omega) (by omega)]; omega
  have w2 : IntKind.i64.wrap (((mid + m : Nat) : Int) - 1) = ((mid + m - 1 : Nat) : Int) := by rw [wrap_in (by omega) (by omega)]; omega
  have key : ∀ s0 r0 : Nat, s0 ≤ r0 → a ≤ s0 → r0 ≤ m → r0 ≤ mid → mid + m - s0 ≤ b →
      ∃ s : Nat, iter (sym_L8_step l a m b) (b + 1) ((s0 : Int), (r0 : Int)) = some ((s : Int), (s : Int)) ∧ s0 ≤ s ∧ s ≤ r0 ∧ (∀ k, s0 ≤ k → k < s → ¬ (kA l (mid + m - 1 - k)).1 < (kA l k).1) ∧ ∀ k, s ≤ k → k < r0 → (kA l (mid + m - 1 - k)).1 < (kA l k).1 := fun s0 r0 c0 c1 c2 c3 c4 =>
    bs_iter (step := sym_L8_step l a m b) (P := fun k => (kA l (mid + m - 1 - k)).1 < (kA l k).1) c0 (fun i j i1 i2 i3 hi => by
      have e1 := sA.le (p := i) (q := j) (by omega) i2 (by omega)
      have e2 := sB.le (p := mid + m - 1 - j) (q := mid + m - 1 - i) (by omega) (by omega) (by omega)
      omega) (fun i j h i1 i2 i3 hh => by
      have w := half_is (i := i) (j := j) (by omega)
      rw [← hh] at w
      have q : (i : Int) < (j : Int) := by omega
      have w3 : IntKind.i64.wrap (((mid + m - 1 : Nat) : Int) - (h : Int)) = ((mid + m - 1 - h : Nat) : Int) := by rw [wrap_in (by omega) (by omega)]; omega
      have q1 : (0 : Int) ≤ ((mid + m - 1 - h : Nat) : Int) ∧ ((mid + m - 1 - h : Nat) : Int) < (l.length : Int) := by omega
      have q2 : (0 : Int) ≤ (h : Int) ∧ (h : Int) < (l.length : Int) := by omega
      have w4 : IntKind.i64.wrap ((h : Int) + 1) = ((h + 1 : Nat) : Int) := by rw [wrap_in (by omega) (by omega)]; omega
      refine ⟨fun c => ?_, fun c => ?_⟩
      · have c' : (rd l (mid + m - 1 - h) 0).int < (rd l h 0).int := c
        simp only [sym_L8_step, cond_dec q, w, hw, w1, w2, w3, cond_dec q1, cond_dec q2, Int.toNat_natCast, cond_dec c']
      · have c' : ¬ (rd l (mid + m - 1 - h) 0).int < (rd l h 0).int := c
        by_cases d : (rd l (mid + m - 1 - h) 0).int > (rd l h 0).int
        · simp only [sym_L8_step, cond_dec q, w, hw, w1, w2, w3, cond_dec q1, cond_dec q2, Int.toNat_natCast, cond_not c', cond_dec d, w4]
        · simp only [sym_L8_step, cond_dec q, w, hw, w1, w2, w3, cond_dec q1, cond_dec q2, Int.toNat_natCast, cond_not c', cond_not d, w4]) (fun i => by
      have q : ¬ ((i : Int) < (i : Int)) := by omega
      simp only [sym_L8_step, cond_not q]) (by omega)
  by_cases c : mid < m
  · have q : (m : Int) > (mid : Int) := by omega
    have w5 : IntKind.i64.wrap (((mid + m : Nat) : Int) - (b : Int)) = ((mid + m - b : Nat) : Int) := by rw [wrap_in (by omega) (by omega)]; omega
    obtain ⟨s, g1, g2, g3, g4, g5⟩ := key (mid + m - b) mid (by omega) (by omega) (by omega) (by omega) (by omega)
    refine ⟨s, by unfold sym_L8_p; simp only [hw, w1, w5, cond_dec q, Int.toNat_natCast, g1, Option.isSome_some], by unfold sym_L8_v loopRes; simp only [hw, w1, w5, cond_dec q, Int.toNat_natCast, g1, Option.getD_some], by omega, by omega, by omega, by omega, fun e1 e2 => ?_, fun e1 e2 => ?_⟩
    · have := g4 (s - 1) (by omega) (by omega)
      rw [show mid + m - 1 - (s - 1) = mid + m - s by omega] at this
      omega
    · have := g5 s (by omega) (by omega)
      rw [show mid + m - 1 - s = mid + m - s - 1 by omega] at this
      omega
  · have q : ¬ ((m : Int) > (mid : Int)) := by omega
    obtain ⟨s, g1, g2, g3, g4, g5⟩ := key a m (by omega) (by omega) (by omega) (by omega) (by omega)
    refine ⟨s, by unfold sym_L8_p; simp only [hw, cond_not q, Int.toNat_natCast, g1, Option.isSome_some], by unfold sym_L8_v loopRes; simp only [hw, cond_not q, Int.toNat_natCast, g1, Option.getD_some], by omega, by omega, by omega, by omega, fun e1 e2 => ?_, fun e1 e2 => ?_⟩
    · have := g4 (s - 1) (by omega) (by omega)
      rw [show mid + m - 1 - (s - 1) = mid + m - s by omega] at this
      omega
    · have := g5 s (by omega) (by omega)
      rw [show mid + m - 1 - s = mid + m - s - 1 by omega] at this
      omega
/-- What is known of a merge. -/
def MergeOk (K : Nat) (I : SymIn) : Prop := ∀ (l : List (List Ct)) (a m b : Nat), a < m → m < b → b ≤ l.length → l.length ≤ 1048576 → b - a ≤ K → Srt a m l → Srt m b l → I.p l a m b = true ∧ Sam a b l (I.v l a m b) ∧ Srt a b (I.v l a m b)
omit hmid h1 h2 hb hl sA sB in
/-- A merge, if it is one at all. -/
theorem MergeOk.opt {K : Nat} {I : SymIn} (h : MergeOk K I) {l : List (List Ct)} {a m b : Nat} (h1 : a ≤ m) (h2 : m ≤ b) (hb : b ≤ l.length) (hl : l.length ≤ 1048576) (hK : b - a ≤ K) (sA : Srt a m l) (sB : Srt m b l) :
    ∃ r, (bif decide (a < m ∧ m < b) then I.p l a m b else true) = true ∧ (bif decide (a < m ∧ m < b) then I.v l a m b else l) = r ∧ Sam a b l r ∧ Srt a b r := by
  by_cases c : a < m ∧ m < b
  · rw [decide_eq_true c]
    obtain ⟨g1, g2, g3⟩ := h l a m b c.1 c.2 hb hl hK sA sB
    exact ⟨_, g1, rfl, g2, g3⟩
  · rw [decide_eq_false c]
    refine ⟨l, rfl, rfl, Sam.refl _ _ _, ?_⟩
    by_cases e : a = m
    · subst e; exact sB
    · obtain rfl : m = b := by omega
      exact sA
end
end Go.Proofs.Ytmpaelkjooahoaa
