/- A symbolic way through the code of a call: closed calls, evaluated. No condition. -/
import Derived.Test.YthgneojhhocflaaEng16
set_option linter.unusedVariables false
namespace Go.Proofs.Ythgneojhhocflaa
open Go.RowKit

def algQ : Alg Bool where
  fail := false
  ob _ b r := b && r
  eqI _ _ _ := false
  br _ b x y := bif b then x else y
theorem sound_Q : Sound algQ (· = true) where
  fail := by simp [algQ]
  ob := fun h => by simpa [algQ] using h
  eqI := fun h => by simp [algQ] at h
  br := fun {n b r r'} h => by
    cases b with
    | true => exact ⟨fun _ => h, fun hb => by cases hb⟩
    | false => exact ⟨fun hb => (by cases hb), fun _ => h⟩
/-- The call answers true. -/
def outQ (out : Out) : Bool := match out.value with | some (.bool b) => b | _ => false
theorem outQ_spec {out : Out} (h : outQ out = true) : out.value = some (.bool true) := by
  unfold outQ at h
  split at h
  · rename_i b hb; rw [hb, h]
  · cases h
/-- A call without arguments that answers true. -/
theorem eng_closed {P : Program} {C : Cfg P} (hf : FactsOk C.facts) {n : Nat} {f : FuncId} (h : evCall algQ C n f [] [] 0 outQ = true) (w : World) : Calls P f #[] w fun en w' => en = .returned (.bool true) ∧ Below w.heap.size w w' :=
  eng_value hf (args := []) rfl (gsim_call sound_Q n _ _ _ _ _ _ (fun out ho => outQ_spec ho) h) w
end Go.Proofs.Ythgneojhhocflaa
