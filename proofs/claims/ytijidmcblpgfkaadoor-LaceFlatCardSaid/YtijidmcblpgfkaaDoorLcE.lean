/- A pixel, smoothed: tests for the contracts. No condition. -/
import Derived.Test.YtijidmcblpgfkaaDoorLcD
set_option linter.unusedVariables false
set_option linter.unusedSimpArgs false
namespace Go.Proofs.YtijidmcblpgfkaaDoor
open Go.RowKit

def okB (W H n : Int) (D N S L : List (List Ct)) : Bool := decide (1 ≤ W ∧ W ≤ 64 ∧ 1 ≤ H ∧ H ≤ 64) && (levP n && decide ((D.length : Int) = W * H ∧ (N.length : Int) = W * H ∧ (S.length : Int) = W * H ∧ (L.length : Int) = W * H))
theorem okB_iff {W H n : Int} {D N S L : List (List Ct)} : okB W H n D N S L = true ↔ PixOk W H n D N S L := by
  simp only [okB, Bool.and_eq_true, decide_eq_true_eq]
  exact ⟨fun ⟨⟨a, b, c, d⟩, e, f, g, h, i⟩ => ⟨a, b, c, d, e, f, g, h, i⟩, fun h => ⟨⟨h.w0, h.w1, h.h0, h.h1⟩, h.n, h.d, h.nn, h.s, h.l⟩⟩
theorem pix_somei {g D N S L : List (List Ct)} {W H i n : Int} (h : (gtB g && okB W H n D N S L && decide (0 ≤ i ∧ i < W * H)) = true) : pix_res g D N S W H L i n = some (pixS W H n D N S L (i % W) (i / W)) := by
  simp only [Bool.and_eq_true, decide_eq_true_eq] at h
  obtain ⟨⟨h1, h2⟩, h3, h4⟩ := h
  have ok := okB_iff.1 h2
  have w0 := ok.w0
  have e : i / W * W + i % W = i := Int.mul_comm W (i / W) ▸ Int.mul_ediv_add_emod i W
  have a1 := Int.emod_nonneg i (show W ≠ 0 by omega)
  have a2 := Int.emod_lt_of_pos i (show 0 < W by omega)
  have a3 : 0 ≤ i / W := Int.ediv_nonneg h3 (by omega)
  have a4 : i / W < H := Int.ediv_lt_of_lt_mul (by omega) (by rw [Int.mul_comm]; exact h4)
  have := pix_some ok a1 a2 a3 a4 h1
  rw [e] at this
  exact this
theorem rpx_somei {D N S L : List (List Ct)} {W H x y n : Int} (h : (okB W H n D N S L && decide (0 ≤ x ∧ x < W ∧ 0 ≤ y ∧ y < H)) = true) : rpx_res D N S W H L x y n = some (pixS W H n D N S L x y) := by
  simp only [Bool.and_eq_true, decide_eq_true_eq] at h
  obtain ⟨h2, a1, a2, a3, a4⟩ := h
  exact rpx_some (okB_iff.1 h2) a1 a2 a3 a4
end Go.Proofs.YtijidmcblpgfkaaDoor
