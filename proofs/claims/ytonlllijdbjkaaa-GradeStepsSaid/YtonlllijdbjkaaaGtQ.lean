/- Tables over bytes: what is asked of a picture. No condition. -/
import Derived.Test.YtonlllijdbjkaaaGtP
set_option linter.unusedVariables false
set_option linter.unusedSimpArgs false
namespace Go.Proofs.Ytonlllijdbjkaaa
open Go.RowKit

/-- Rows of bytes, by a test. -/
def byteB (l : List (List Ct)) (w : Nat) : Bool := (List.range l.length).all fun i => (List.range w).all fun j => decide (0 ≤ (rd l i j).int ∧ (rd l i j).int < 256)
theorem byteB_iff {l : List (List Ct)} {w : Nat} : byteB l w = true ↔ ByteL l w := by
  simp [byteB, ByteL, List.all_eq_true]
/-- May it be a picture? -/
def picB (w h : Int) (d : List (List Ct)) : Bool := bif bif decide (w ≥ (1 : Int)) then bif decide (w ≤ (64 : Int)) then bif decide (h ≥ (1 : Int)) then decide (h ≤ (64 : Int)) else false else false else false then ((d.length : Nat) : Int) == IntKind.i64.wrap (w * h) else false
theorem picB_pos {w h : Int} {d : List (List Ct)} (hp : picB w h d = true) : 0 < d.length ∧ 1 ≤ w ∧ w ≤ 64 ∧ 1 ≤ h ∧ h ≤ 64 ∧ (d.length : Int) = w * h ∧ d.length ≤ 4096 := by
  unfold picB at hp
  simp only [Bool.cond_eq_ite, Bool.if_false_right, Bool.and_eq_true, decide_eq_true_eq, beq_iff_eq] at hp
  obtain ⟨⟨h1, h2, h3, h4⟩, h5⟩ := hp
  have hm : w * h ≤ 64 * 64 := Int.mul_le_mul h2 h4 (by omega) (by omega)
  have hm1 : 1 * 1 ≤ w * h := Int.mul_le_mul h1 h3 (by omega) (by omega)
  rw [wrap_in (by omega) (by omega)] at h5
  exact ⟨by omega, h1, h2, h3, h4, h5, by omega⟩
theorem spr_some {x0_0 x0_1 : Int} {x0_2 : List (List Ct)} (h : (byteB x0_2 3 && decide (x0_2.length ≤ 5000)) = true) : spr_res x0_0 x0_1 x0_2 = some (bif picB x0_0 x0_1 x0_2 then (sprT x0_2, 0) else (List.replicate 256 [.i 0], 1)) := by
  simp only [Bool.and_eq_true, decide_eq_true_eq] at h
  obtain ⟨h1, h2⟩ := h
  have hl : (sprT x0_2).length = 256 := tab_length _ _
  have hr : (List.replicate 256 [Ct.i 0]).length = 256 := List.length_replicate ..
  unfold spr_res
  show (bif !picB x0_0 x0_1 x0_2 then _ else _) = _
  cases hp : picB x0_0 x0_1 x0_2 with
  | false => simp [-List.reduceReplicate]
  | true =>
    obtain ⟨g1, g2, g3⟩ := spr_is (byteB_iff.1 h1) h2 (picB_pos hp).1
    simp [g1, g2, g3, hl, -List.reduceReplicate]
end Go.Proofs.Ytonlllijdbjkaaa
