/- Films and sheets: plain laws. No condition. -/
import Derived.Test.YtonlllijdbjkaaaLoopA
import Derived.Test.YtonlllijdbjkaaaGradeLaw
set_option linter.unusedVariables false
namespace Go.Proofs.Ytonlllijdbjkaaa

/-- A loop that looks at each, and leaves where one is not as it should be. -/
theorem iter_chk {step : Int → Option (Int ⊕ (Int ⊕ Unit))} {n m : Nat} {c : Nat → Prop} (hin : ∀ k, k < n → (c k → step (k : Int) = some (.inl ((k : Int) + 1))) ∧ (¬ c k → step (k : Int) = some (.inr (.inr ()))))
    (hout : step (n : Int) = some (.inr (.inl (n : Int)))) (hm : n < m) : ∃ r, iter step m 0 = some r ∧ (isL r = true ↔ ∀ k, k < n → c k) := by
  obtain ⟨h1, h2⟩ := iter_check (step := step) (n := n) (P := c) 0 (fun k hk => by simpa using hin k hk) (by simpa using hout) n 0 m (by omega) hm
  have z : ((0 + 0 : Nat) : Int) = 0 := rfl
  rw [z] at h1 h2
  by_cases hc : ∀ k, k < n → c k
  · exact ⟨_, h1 fun j _ hj => hc j hj, by simp [isL]; exact hc⟩
  · refine ⟨_, h2 ?_, by simp [isL]; simpa using hc⟩
    apply Classical.byContradiction
    intro hn
    exact hc fun k hk => Classical.byContradiction fun hk' => hn ⟨k, Nat.zero_le _, hk, hk'⟩
structure FilmOk (w h : Int) (L D N B S F : List (List Ct)) : Prop where
  w1 : 1 ≤ w
  w2 : w ≤ 64
  h1 : 1 ≤ h
  h2 : h ≤ 64
  l : (L.length : Int) = w * h
  d : (D.length : Int) = w * h
  n : (N.length : Int) = w * h
  b : (B.length : Int) = w * h
  s : (S.length : Int) = w * h
  f : (F.length : Int) = w * h
  at' : ∀ k, k < S.length → -1 ≤ (rd S k 0).int ∧ (rd S k 0).int < 128 ∧ -1 ≤ (rd F k 0).int ∧ (rd F k 0).int < w * h
open Classical in
noncomputable def filmS (w h : Int) (L D N B S F : List (List Ct)) : Bool := decide (FilmOk w h L D N B S F)
theorem filmS_iff {w h : Int} {L D N B S F : List (List Ct)} : filmS w h L D N B S F = true ↔ FilmOk w h L D N B S F := by simp [filmS]
theorem filmS_true {w h : Int} {L D N B S F : List (List Ct)} (k : FilmOk w h L D N B S F) : filmS w h L D N B S F = true := filmS_iff.2 k
theorem filmS_false {w h : Int} {L D N B S F : List (List Ct)} (k : ¬ FilmOk w h L D N B S F) : filmS w h L D N B S F = false := by simp [filmS, k]
theorem side_mul {w h : Int} (w1 : 1 ≤ w) (w2 : w ≤ 64) (h1 : 1 ≤ h) (h2 : h ≤ 64) : 1 ≤ w * h ∧ w * h ≤ 4096 := by
  have a : 1 * 1 ≤ w * h := Int.mul_le_mul w1 h1 (by omega) (by omega)
  have b : w * h ≤ 64 * 64 := Int.mul_le_mul w2 h2 (by omega) (by omega)
  omega
/-- Two sheets are the same. -/
structure SheetEq (w h : Int) (L : List (List Ct)) (w' h' : Int) (L' : List (List Ct)) : Prop where
  w : w = w'
  h : h = h'
  l : L.length = L'.length
  at' : ∀ k, k < L.length → (rd L k 0).int = (rd L' k 0).int ∧ (rd L k 1).int = (rd L' k 1).int ∧ (rd L k 2).int = (rd L' k 2).int
open Classical in
noncomputable def sheetS (w h : Int) (L : List (List Ct)) (w' h' : Int) (L' : List (List Ct)) : Bool := decide (SheetEq w h L w' h' L')
theorem sheetS_iff {w h : Int} {L : List (List Ct)} {w' h' : Int} {L' : List (List Ct)} : sheetS w h L w' h' L' = true ↔ SheetEq w h L w' h' L' := by simp [sheetS]
theorem sheetS_true {w h : Int} {L : List (List Ct)} {w' h' : Int} {L' : List (List Ct)} (k : SheetEq w h L w' h' L') : sheetS w h L w' h' L' = true := sheetS_iff.2 k
theorem sheetS_false {w h : Int} {L : List (List Ct)} {w' h' : Int} {L' : List (List Ct)} (k : ¬ SheetEq w h L w' h' L') : sheetS w h L w' h' L' = false := by simp [sheetS, k]
end Go.Proofs.Ytonlllijdbjkaaa
