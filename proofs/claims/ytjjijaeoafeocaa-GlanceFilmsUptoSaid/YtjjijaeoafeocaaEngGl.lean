/- strings.Repeat of one letter, for the symbolic way: the shelf's contract. No condition. -/
import Derived.Test.YtjjijaeoafeocaaEngG
import Derived.Test.YtjjijaeoafeocaaOpenB
import Derived.Test.YtjjijaeoafeocaaShelf
set_option linter.unusedVariables false
namespace Go.Proofs.Ytjjijaeoafeocaa
open Go.RowKit

/-- A function of values that answers a value, where something holds of them. -/
def conVP (P : Program) (f : FuncId) (g : List Value → Option (Bool × Value)) (ok : ∀ vs b V, g vs = some (b, V) → b = true → ∀ w, Calls P f vs.toArray w fun en w' => en = .returned V ∧ Below w.heap.size w w') : Con P where
  f := f
  g := fun args _ nx => match valsOf args with
    | some vs => (match g vs with
      | some (b, V) => some (some b, .val nx (RV.ofVal false V))
      | none => none)
    | none => none
  ok := by
    intro args hp nx p out _ h hm
    split at h
    · rename_i vs hv
      split at h
      · rename_i b V hV
        cases h
        exact callOk_of_below hv (ok vs b V hV (hm b rfl))
      · cases h
    · cases h
/-- A letter, so often. -/
def timesS (c : UInt8) (n : Int) : ByteArray := ⟨(List.replicate n.toNat c).toArray⟩
def repG : List Value → Option (Bool × Value)
  | [.string s, .int .i64 c] => some (decide (s.size = 1 ∧ 0 ≤ c ∧ c ≤ 140737488355328), .string (timesS (s.data.toList.getD 0 0) c))
  | _ => none
theorem repeatL_one (x : UInt8) (n : Nat) : Lib.repeatL [x] n = List.replicate n x := by
  induction n with
  | zero => rfl
  | succ n ih => simp [Lib.repeatL, ih, List.replicate_succ]
def rep_con : Con Try.prog := conVP Try.prog 23 repG fun vs b V hV hb w => by
  unfold repG at hV
  split at hV
  · rename_i s c
    cases hV
    have hb := of_decide_eq_true hb
    obtain ⟨h1, h2, h3⟩ := hb
    obtain ⟨k, rfl⟩ : ∃ k : Nat, c = k := ⟨c.toNat, by omega⟩
    have h := Try.strings_Repeat s k w (by omega) (by rw [h1]; omega)
    obtain ⟨⟨l⟩⟩ := s
    match l, h1 with
    | [x], _ =>
      simp only [repeatL_one] at h
      exact h
  · cases hV
def consGl : List (Con Try.prog) := [rep_con]
end Go.Proofs.Ytjjijaeoafeocaa
