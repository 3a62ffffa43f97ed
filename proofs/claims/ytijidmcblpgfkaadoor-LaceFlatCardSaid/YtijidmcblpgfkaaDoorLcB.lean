/- How much a pixel counts, plainly. No condition. -/
import Derived.Test.YtijidmcblpgfkaaDoorEngLc4
set_option linter.unusedVariables false
set_option linter.unusedSimpArgs false
namespace Go.Proofs.YtijidmcblpgfkaaDoor
open Go.RowKit

/-- The package variable's numbers. -/
def gtB (g : List (List Ct)) : Bool := decide (g.length = 3 ∧ (rd g 0 0).int = 6 ∧ (rd g 1 0).int = 4 ∧ (rd g 2 0).int = 1)
def tapN (a : Int) : Int := if a = 0 then 6 else if a = 1 ∨ a = -1 then 4 else 1
def two5 (a : Int) : Bool := decide (-2 ≤ a ∧ a ≤ 2)
theorem two5_cases {a : Int} (h : two5 a = true) : a = -2 ∨ a = -1 ∨ a = 0 ∨ a = 1 ∨ a = 2 := by
  simp [two5] at h; omega
noncomputable def weiS (D N S L : List (List Ct)) (i k a b n : Int) : Int :=
  mulS (ofS (tapN a * tapN b)) (if i = k then 65536 else mulS (likS D N S i k) (neaS (rd L i.toNat 0).int (rd L i.toNat 1).int (rd L i.toNat 2).int (rd L k.toNat 0).int (rd L k.toNat 1).int (rd L k.toNat 2).int n))
def weiP (g D N S L : List (List Ct)) (i k a b n : Int) : Bool := gtB g && (two5 a && (two5 b && (levP n && (likP D N S i k && (inL i L && inL k L)))))
theorem tap_is {g : List (List Ct)} (hg : gtB g = true) {a : Int} (ha : two5 a = true) : (decide (((0 : Int) ≤ if IntKind.i64.wrap ((0 : Int) - a) > a then IntKind.i64.wrap ((0 : Int) - a) else a) ∧ (if IntKind.i64.wrap ((0 : Int) - a) > a then IntKind.i64.wrap ((0 : Int) - a) else a) < (3 : Int) ∧ (if IntKind.i64.wrap ((0 : Int) - a) > a then IntKind.i64.wrap ((0 : Int) - a) else a) < ((g.length : Nat) : Int)) = true) ∧
    (rd g (if IntKind.i64.wrap ((0 : Int) - a) > a then IntKind.i64.wrap ((0 : Int) - a) else a).toNat 0).int = tapN a := by
  obtain ⟨h0, h1, h2, h3⟩ : g.length = 3 ∧ (rd g 0 0).int = 6 ∧ (rd g 1 0).int = 4 ∧ (rd g 2 0).int = 1 := by simpa [gtB] using hg
  rw [h0]
  rcases two5_cases ha with rfl | rfl | rfl | rfl | rfl
  · exact ⟨by decide, by rw [show (if IntKind.i64.wrap ((0 : Int) - -2) > -2 then IntKind.i64.wrap ((0 : Int) - -2) else (-2 : Int)).toNat = 2 by decide, h3]; decide⟩
  · exact ⟨by decide, by rw [show (if IntKind.i64.wrap ((0 : Int) - -1) > -1 then IntKind.i64.wrap ((0 : Int) - -1) else (-1 : Int)).toNat = 1 by decide, h2]; decide⟩
  · exact ⟨by decide, by rw [show (if IntKind.i64.wrap ((0 : Int) - 0) > 0 then IntKind.i64.wrap ((0 : Int) - 0) else (0 : Int)).toNat = 0 by decide, h1]; decide⟩
  · exact ⟨by decide, by rw [show (if IntKind.i64.wrap ((0 : Int) - 1) > 1 then IntKind.i64.wrap ((0 : Int) - 1) else (1 : Int)).toNat = 1 by decide, h2]; decide⟩
  · exact ⟨by decide, by rw [show (if IntKind.i64.wrap ((0 : Int) - 2) > 2 then IntKind.i64.wrap ((0 : Int) - 2) else (2 : Int)).toNat = 2 by decide, h3]; decide⟩
theorem tap_wrap {a b : Int} (ha : two5 a = true) (hb : two5 b = true) : IntKind.i64.wrap (tapN a * tapN b) = tapN a * tapN b := by
  rcases two5_cases ha with rfl | rfl | rfl | rfl | rfl <;> rcases two5_cases hb with rfl | rfl | rfl | rfl | rfl <;> decide
theorem wei_some {g D N S L : List (List Ct)} {i k a b n : Int} (h : weiP g D N S L i k a b n = true) : wei_res g D N S L i k a b n = some (weiS D N S L i k a b n) := by
  simp only [weiP, Bool.and_eq_true] at h
  obtain ⟨h1, h2, h3, h4, h5, h6, h7⟩ := h
  obtain ⟨a1, a2⟩ := tap_is h1 h2
  obtain ⟨b1, b2⟩ := tap_is h1 h3
  have h6' : decide ((0 : Int) ≤ i ∧ i < ((L.length : Nat) : Int)) = true := h6
  have h7' : decide ((0 : Int) ≤ k ∧ k < ((L.length : Nat) : Int)) = true := h7
  unfold wei_res weiS
  rw [a1, b1]
  simp only [a2, b2, h4, h5, h6', h7', tap_wrap h2 h3, Bool.and_true, cond_same, cond_true]
  by_cases hik : i = k
  · have : (i != k) = false := by simp [hik]
    rw [this, if_pos hik]; rfl
  · have : (i != k) = true := by simp [hik]
    rw [this, if_neg hik]; rfl
theorem tpo_some {a : Int} (h : two5 a = true) : tpo_res a = some (tapN a) := by
  rcases two5_cases h with rfl | rfl | rfl | rfl | rfl <;> decide
end Go.Proofs.YtijidmcblpgfkaaDoor
