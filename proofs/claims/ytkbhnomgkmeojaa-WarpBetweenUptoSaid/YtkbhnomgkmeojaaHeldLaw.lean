/- Films whose numbers are held: plain laws. No condition. -/
import Derived.Test.YtkbhnomgkmeojaaFilmLaw
import Derived.Test.YtkbhnomgkmeojaaNum
set_option linter.unusedVariables false
namespace Go.Proofs.Ytkbhnomgkmeojaa

def Held1 (l : List (List Ct)) : Prop := ∀ k, k < l.length → (rd l k 0).int = heldS (rd l k 0).int
def Held3 (l : List (List Ct)) : Prop := ∀ k, k < l.length → (rd l k 0).int = heldS (rd l k 0).int ∧ (rd l k 1).int = heldS (rd l k 1).int ∧ (rd l k 2).int = heldS (rd l k 2).int
open Classical in
noncomputable def heldFS (L D N B : List (List Ct)) : Bool := decide (Held1 D ∧ Held3 L ∧ Held3 B ∧ Held3 N)
theorem heldFS_iff {L D N B : List (List Ct)} : heldFS L D N B = true ↔ Held1 D ∧ Held3 L ∧ Held3 B ∧ Held3 N := by simp [heldFS]
theorem heldFS_false {L D N B : List (List Ct)} (h : ¬ (Held1 D ∧ Held3 L ∧ Held3 B ∧ Held3 N)) : heldFS L D N B = false := by
  cases hb : heldFS L D N B with
  | false => rfl
  | true => exact absurd (heldFS_iff.1 hb) h
/-- A loop that looks whether all numbers are held. -/
theorem held3_loop {step : Int → Option (Int ⊕ (Int ⊕ Unit))} {l : List (List Ct)} {m : Nat} (hs : ∀ k : Nat, step (k : Int) = bif (decide ((k : Int) < (l.length : Int))) then (bif (decide ((0 : Int) ≤ (k : Int) ∧ (k : Int) < (l.length : Int))) then bif ((rd l k 0).int != heldS (rd l k 0).int) then (some (.inr (.inr ()))) else bif ((rd l k 1).int != heldS (rd l k 1).int) then (some (.inr (.inr ()))) else bif ((rd l k 2).int != heldS (rd l k 2).int) then (some (.inr (.inr ()))) else some (.inl (IntKind.i64.wrap ((k : Int) + 1))) else none) else some (.inr (.inl (k : Int))))
    (hl : l.length ≤ 1048576) (hm : l.length < m) : ∃ r, iter step m 0 = some r ∧ (isL r = true ↔ Held3 l) := by
  refine iter_chk (c := fun k => (rd l k 0).int = heldS (rd l k 0).int ∧ (rd l k 1).int = heldS (rd l k 1).int ∧ (rd l k 2).int = heldS (rd l k 2).int) (fun k hk => ?_) (by rw [hs]; simp) hm
  have w : IntKind.i64.wrap ((k : Int) + 1) = (k : Int) + 1 := wrap_in (by omega) (by omega)
  rw [hs]
  by_cases q1 : (rd l k 0).int = heldS (rd l k 0).int
  case neg => exact ⟨fun h => absurd h.1 q1, fun _ => by simp [hk, bne, beq_eq_false_iff_ne.2 q1]⟩
  by_cases q2 : (rd l k 1).int = heldS (rd l k 1).int
  case neg => exact ⟨fun h => absurd h.2.1 q2, fun _ => by simp [hk, bne, beq_iff_eq.2 q1, beq_eq_false_iff_ne.2 q2]⟩
  by_cases q3 : (rd l k 2).int = heldS (rd l k 2).int
  case neg => exact ⟨fun h => absurd h.2.2 q3, fun _ => by simp [hk, bne, beq_iff_eq.2 q1, beq_iff_eq.2 q2, beq_eq_false_iff_ne.2 q3]⟩
  exact ⟨fun _ => by simp [hk, bne, beq_iff_eq.2 q1, beq_iff_eq.2 q2, beq_iff_eq.2 q3, w], fun h => absurd ⟨q1, q2, q3⟩ h⟩
theorem held1_loop {step : Int → Option (Int ⊕ (Int ⊕ Unit))} {l : List (List Ct)} {m : Nat} (hs : ∀ k : Nat, step (k : Int) = bif (decide ((k : Int) < (l.length : Int))) then (bif (decide ((0 : Int) ≤ (k : Int) ∧ (k : Int) < (l.length : Int))) then bif ((rd l k 0).int != heldS (rd l k 0).int) then (some (.inr (.inr ()))) else some (.inl (IntKind.i64.wrap ((k : Int) + 1))) else none) else some (.inr (.inl (k : Int))))
    (hl : l.length ≤ 1048576) (hm : l.length < m) : ∃ r, iter step m 0 = some r ∧ (isL r = true ↔ Held1 l) := by
  refine iter_chk (c := fun k => (rd l k 0).int = heldS (rd l k 0).int) (fun k hk => ?_) (by rw [hs]; simp) hm
  have w : IntKind.i64.wrap ((k : Int) + 1) = (k : Int) + 1 := wrap_in (by omega) (by omega)
  rw [hs]
  by_cases q1 : (rd l k 0).int = heldS (rd l k 0).int
  case neg => exact ⟨fun h => absurd h q1, fun _ => by simp [hk, bne, beq_eq_false_iff_ne.2 q1]⟩
  exact ⟨fun _ => by simp [hk, bne, beq_iff_eq.2 q1, w], fun h => absurd q1 h⟩
end Go.Proofs.Ytkbhnomgkmeojaa
