/- Dice, by values. No condition. -/
import Derived.Test.YtmpaelkjooahoaaEngG
import Derived.Test.YtmpaelkjooahoaaEngWave
import Derived.Test.YtmpaelkjooahoaaDiceKey
set_option linter.unusedVariables false
namespace Go.Proofs.Ytmpaelkjooahoaa
open Go.RowKit

/-- A function of values that answers a value, where something holds of them. -/
def conVP (P : Program) (f : FuncId) (g : List Value → Option (Bool × Value)) (ok : ∀ vs b V, g vs = some (b, V) → b = true → ∀ w, Calls P f vs.toArray w fun en w' => en = .returned V ∧ Below w.heap.size w w') : Con P where
  f := f
  g := fun args _ nx => match valsOf args with
    | some vs => (match g vs with
      | some (b, V) => some (some b, .val nx (RV.ofVal false V))
      | none => none)
    | none => none
  ok := by
    intro args hp nx p out _ h hm
    split at h
    · rename_i vs hv
      split at h
      · rename_i b V hV
        cases h
        exact callOk_of_below hv (ok vs b V hV (hm b rfl))
      · cases h
    · cases h
noncomputable def unitG : List Value → Option (Bool × Value)
  | [.agg ⟨[.int .u64 s, .int .i64 f, .int .i64 p, .int .i64 a]⟩, .int .i64 d] => some ((Lit.int .u64 s).wf, .int .i64 (unitS s f p a d))
  | _ => none
noncomputable def consOrbit : List (Con Try.prog) := [
  conVP Try.prog 60 unitG (fun vs b V hV hb w => by
    unfold unitG at hV
    split at hV
    · cases hV
      exact unit_any _ _ _ _ _ w hb
    · cases hV),
  conVP Try.prog 63 unitG (fun vs b V hV hb w => by
    unfold unitG at hV
    split at hV
    · cases hV
      exact (refunit_any _ _ _ _ _ w hb).mono fun e w' k => ⟨k.1, k.2⟩
    · cases hV)
] ++ consWave
end Go.Proofs.Ytmpaelkjooahoaa
