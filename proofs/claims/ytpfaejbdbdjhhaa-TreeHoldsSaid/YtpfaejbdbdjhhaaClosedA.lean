/- A call on arguments that are written out, evaluated: it answers true. No condition. -/
import Derived.Test.YtpfaejbdbdjhhaaEngG
set_option linter.unusedVariables false
namespace Go.Proofs.Ytpfaejbdbdjhhaa
open Go.RowKit

/-- The call answers true, writes nothing, takes few names. -/
def outW (N : Nat) (out : Out) : Bool := outQ out && Nat.ble out.nx N
theorem CallOk.plainTrue {P : Program} {f : FuncId} {args : List RV} {hp : Hp} {nx N : Nat} {out : Out} (h : CallOk P f args hp nx out) (hw : outW N out = true) : CallOk P f args hp nx ⟨.sv (.one (.val false (.bool true))), [], N, []⟩ := by
  simp only [outW, Bool.and_eq_true] at hw
  have hv := outQ_spec hw.1
  have hN := Nat.le_of_ble_eq_true hw.2
  unfold Out.value at hv
  cases hb : (out.v.ids.isEmpty && out.W.isEmpty) with
  | false => rw [hb] at hv; cases hv
  | true =>
    rw [hb] at hv
    simp only [cond_true, Option.some.injEq] at hv
    simp only [Bool.and_eq_true, List.isEmpty_iff] at hb
    intro e w hs
    refine (h e w hs).mono fun en w' ⟨e', hen, hp'⟩ => ⟨e', ?_, ?_⟩
    · rw [hen, RV.den_same (e := env0) (e' := e') out.v (fun id hid => by rw [hb.1] at hid; cases hid), hv]
      rfl
    · exact ⟨fun id hid => hp'.agree id (hid.imp (fun h => h) (Nat.le_trans hN)), hp'.os, hp'.tape, hp'.output, hp'.size, fun k hk hne => hp'.fr k hk (fun id hid => by rw [hb.2] at hid; cases hid), ⟨fun _ _ h => by simp [hlook] at h, fun _ _ h => by simp [hlook] at h⟩, fun _ _ _ h => by simp [hlook] at h, fun _ _ _ h => by simp [hlook] at h⟩
theorem eng_closedA {P : Program} {C : Cfg P} (hf : FactsOk C.facts) {n : Nat} {f : FuncId} {args : List RV} {hp : Hp} {nx N : Nat} (hnm : namesB ⟨args, hp, nx, []⟩ = true) (h : evCall algQ C n f args hp nx (outW N) = true) : CallOk P f args hp nx ⟨.sv (.one (.val false (.bool true))), [], N, []⟩ := by
  obtain ⟨out, h1, h2⟩ := evCall_ok hf n f args hp nx (fun out => outW N out = true) (namesB_spec hnm) (gsim_call sound_Q n f args hp nx (outW N) (fun out => outW N out = true) (fun out ho => ho) h)
  exact h1.plainTrue h2
end Go.Proofs.Ytpfaejbdbdjhhaa
