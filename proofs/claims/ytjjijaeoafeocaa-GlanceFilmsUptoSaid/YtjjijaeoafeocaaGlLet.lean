/- The letters of shapes and flows. No condition. -/
import Derived.Test.YtjjijaeoafeocaaGlPix
import Derived.Test.YtjjijaeoafeocaaEngGlW
import Derived.Test.YtjjijaeoafeocaaEngGlX
import Derived.Test.YtjjijaeoafeocaaEngGlY
set_option linter.unusedVariables false
set_option linter.unusedSimpArgs false
namespace Go.Proofs.Ytjjijaeoafeocaa
open Go.RowKit

/-- A shape's letter, as the document has it. -/
def shL (n : Int) : Int := bif decide (n < (0 : Int)) then (46 : Int) else bif decide (n < (10 : Int)) then IntKind.u8.wrap (IntKind.i64.wrap ((48 : Int) + n)) else bif decide (n < (36 : Int)) then IntKind.u8.wrap (IntKind.i64.wrap (IntKind.i64.wrap ((97 : Int) + n) - (10 : Int))) else (43 : Int)
def digL (n : Int) : Int := (↑((ByteArray.mk #[(48 : UInt8), (49 : UInt8), (50 : UInt8), (51 : UInt8), (52 : UInt8), (53 : UInt8), (54 : UInt8), (55 : UInt8), (56 : UInt8), (57 : UInt8), (97 : UInt8), (98 : UInt8), (99 : UInt8), (100 : UInt8), (101 : UInt8), (102 : UInt8), (103 : UInt8), (104 : UInt8), (105 : UInt8), (106 : UInt8), (107 : UInt8), (108 : UInt8), (109 : UInt8), (110 : UInt8), (111 : UInt8), (112 : UInt8), (113 : UInt8), (114 : UInt8), (115 : UInt8), (116 : UInt8), (117 : UInt8), (118 : UInt8), (119 : UInt8), (120 : UInt8), (121 : UInt8), (122 : UInt8)]).data.toList.getD n.toNat (0 : UInt8)).toNat : Int)
theorem dig_all : ∀ m : Nat, m < 36 → digL (m : Int) = shL (m : Int) := by decide +kernel
theorem dig_ok {n : Int} (h0 : 0 ≤ n) (h1 : n < 36) : digL n = shL n := by
  obtain ⟨m, rfl⟩ : ∃ m : Nat, n = m := ⟨n.toNat, by omega⟩
  exact dig_all m (by omega)
theorem shL_neg {n : Int} (h : n < 0) : shL n = 46 := by unfold shL; exact cond_decI h
theorem shL_big {n : Int} (h : ¬ n < 36) : shL n = 43 := by
  unfold shL
  refine (cond_notI (by omega)).trans ?_
  refine (cond_notI (by omega)).trans ?_
  exact cond_notI h
/-- A flow's letter, as the document has it; by the program. -/
def refA (u v : Int) : Int := bif bif u == (0 : Int) then v == (0 : Int) else false then (111 : Int) else bif u == (0 : Int) then (124 : Int) else bif v == (0 : Int) then (45 : Int) else bif decide (u < (0 : Int)) == decide (v < (0 : Int)) then (92 : Int) else (47 : Int)
def arwI (s t : Int) : Int := IntKind.i64.wrap (IntKind.i64.wrap ((3 : Int) * s) + t)
def arwL (s t : Int) : Int := (↑((ByteArray.mk #[(92 : UInt8), (124 : UInt8), (47 : UInt8), (45 : UInt8), (111 : UInt8), (45 : UInt8), (47 : UInt8), (124 : UInt8), (92 : UInt8)]).data.toList.getD (arwI s t).toNat (0 : UInt8)).toNat : Int)
theorem sid_cases (a b : Int) : (a < b ∧ sid_v a b = 0) ∨ (a = b ∧ sid_v a b = 1) ∨ (b < a ∧ sid_v a b = 2) := by
  unfold sid_v
  by_cases h : a < b
  · exact .inl ⟨h, cond_decI h⟩
  · by_cases k : a > b
    · exact .inr (.inr ⟨k, (cond_notI h).trans (cond_decI k)⟩)
    · exact .inr (.inl ⟨by omega, (cond_notI h).trans (cond_notI k)⟩)
theorem sgn_neg {u : Int} (h : u < 0) : (u == (0 : Int)) = false ∧ decide (u < (0 : Int)) = true := ⟨beq_eq_false_iff_ne.2 (by omega), decide_eq_true h⟩
theorem sgn_pos {u : Int} (h : 0 < u) : (u == (0 : Int)) = false ∧ decide (u < (0 : Int)) = false := ⟨beq_eq_false_iff_ne.2 (by omega), decide_eq_false (by omega)⟩
theorem arrow_ok {p q x y : Int} (p0 : 0 ≤ p) (p1 : p ≤ 1048576) (q0 : 0 ≤ q) (q1 : q ≤ 1048576) (x0 : 0 ≤ x) (x1 : x ≤ 1048576) (y0 : 0 ≤ y) (y1 : y ≤ 1048576) :
    (0 ≤ arwI (sid_v p y) (sid_v q x) ∧ arwI (sid_v p y) (sid_v q x) < 9) ∧ arwL (sid_v p y) (sid_v q x) = refA (IntKind.i64.wrap (q - x)) (IntKind.i64.wrap (p - y)) := by
  have w1 : IntKind.i64.wrap (q - x) = q - x := wrap_in (by omega) (by omega)
  have w2 : IntKind.i64.wrap (p - y) = p - y := wrap_in (by omega) (by omega)
  rw [w1, w2]
  unfold refA
  rcases sid_cases p y with ⟨h, e⟩ | ⟨h, e⟩ | ⟨h, e⟩ <;> rcases sid_cases q x with ⟨k, f⟩ | ⟨k, f⟩ | ⟨k, f⟩
  · rw [e, f, (sgn_neg (show q - x < 0 by omega)).1, (sgn_neg (show q - x < 0 by omega)).2, (sgn_neg (show p - y < 0 by omega)).1, (sgn_neg (show p - y < 0 by omega)).2]; exact ⟨⟨by decide +kernel, by decide +kernel⟩, by decide +kernel⟩
  · rw [e, f, show q - x = 0 by omega, (sgn_neg (show p - y < 0 by omega)).1, (sgn_neg (show p - y < 0 by omega)).2]; exact ⟨⟨by decide +kernel, by decide +kernel⟩, by decide +kernel⟩
  · rw [e, f, (sgn_pos (show 0 < q - x by omega)).1, (sgn_pos (show 0 < q - x by omega)).2, (sgn_neg (show p - y < 0 by omega)).1, (sgn_neg (show p - y < 0 by omega)).2]; exact ⟨⟨by decide +kernel, by decide +kernel⟩, by decide +kernel⟩
  · rw [e, f, (sgn_neg (show q - x < 0 by omega)).1, (sgn_neg (show q - x < 0 by omega)).2, show p - y = 0 by omega]; exact ⟨⟨by decide +kernel, by decide +kernel⟩, by decide +kernel⟩
  · rw [e, f, show q - x = 0 by omega, show p - y = 0 by omega]; exact ⟨⟨by decide +kernel, by decide +kernel⟩, by decide +kernel⟩
  · rw [e, f, (sgn_pos (show 0 < q - x by omega)).1, (sgn_pos (show 0 < q - x by omega)).2, show p - y = 0 by omega]; exact ⟨⟨by decide +kernel, by decide +kernel⟩, by decide +kernel⟩
  · rw [e, f, (sgn_neg (show q - x < 0 by omega)).1, (sgn_neg (show q - x < 0 by omega)).2, (sgn_pos (show 0 < p - y by omega)).1, (sgn_pos (show 0 < p - y by omega)).2]; exact ⟨⟨by decide +kernel, by decide +kernel⟩, by decide +kernel⟩
  · rw [e, f, show q - x = 0 by omega, (sgn_pos (show 0 < p - y by omega)).1, (sgn_pos (show 0 < p - y by omega)).2]; exact ⟨⟨by decide +kernel, by decide +kernel⟩, by decide +kernel⟩
  · rw [e, f, (sgn_pos (show 0 < q - x by omega)).1, (sgn_pos (show 0 < q - x by omega)).2, (sgn_pos (show 0 < p - y by omega)).1, (sgn_pos (show 0 < p - y by omega)).2]; exact ⟨⟨by decide +kernel, by decide +kernel⟩, by decide +kernel⟩
end Go.Proofs.Ytjjijaeoafeocaa
