/- The example of law 19. No condition. -/
import Derived.Test.YtkbhnomgkmeojaaEngFilm4
set_option linter.unusedVariables false
set_option linter.unusedSimpArgs false
namespace Go.Proofs.Ytkbhnomgkmeojaa
open Go.RowKit

noncomputable def waw_O (v : Bool) : Out := ⟨.sv (.one (.val false (.bool v))), [], 35, []⟩
noncomputable def waw_rd (out : Out) : Option (Bool) := some (rB (rvC out.v 0 0))
noncomputable def waw_res  : Option (Bool) := bif (decide (0 + [[Ct.i (hgray_v (9 : Int)).fst, Ct.i (hgray_v (9 : Int)).snd.fst, Ct.i (hgray_v (9 : Int)).snd.snd]].length ≤ 9223372036854775807 ∧ (0 + [[Ct.i (hgray_v (9 : Int)).fst, Ct.i (hgray_v (9 : Int)).snd.fst, Ct.i (hgray_v (9 : Int)).snd.snd]].length) * 24 ≤ 140737488355328)) then bif ((↑([] ++ [[Ct.i (hgray_v (9 : Int)).fst, Ct.i (hgray_v (9 : Int)).snd.fst, Ct.i (hgray_v (9 : Int)).snd.snd]]).length : Int) == (1 : Int)) then (bif (decide ((0 : Int) ≤ (0 : Int) ∧ (0 : Int) < (↑([] ++ [[Ct.i (hgray_v (9 : Int)).fst, Ct.i (hgray_v (9 : Int)).snd.fst, Ct.i (hgray_v (9 : Int)).snd.snd]]).length : Int))) then some ((rd ([] ++ [[Ct.i (hgray_v (9 : Int)).fst, Ct.i (hgray_v (9 : Int)).snd.fst, Ct.i (hgray_v (9 : Int)).snd.snd]]) (Int.toNat (0 : Int)) 0).int == (hgray_v (9 : Int)).fst && ((rd ([] ++ [[Ct.i (hgray_v (9 : Int)).fst, Ct.i (hgray_v (9 : Int)).snd.fst, Ct.i (hgray_v (9 : Int)).snd.snd]]) (Int.toNat (0 : Int)) 1).int == (hgray_v (9 : Int)).snd.fst && ((rd ([] ++ [[Ct.i (hgray_v (9 : Int)).fst, Ct.i (hgray_v (9 : Int)).snd.fst, Ct.i (hgray_v (9 : Int)).snd.snd]]) (Int.toNat (0 : Int)) 2).int == (hgray_v (9 : Int)).snd.snd && true))) else none) else some false else none
set_option maxRecDepth 100000 in
theorem waw_tree  {v : Bool} (h : waw_res  = some v) : CallOk Try.prog 53 [] [] 0 (waw_O v) :=
  eng_tree (C := (⟨consHue, fun _ _ _ => none, fun f => false, noFacts, fun _ => 4⟩ : Cfg Try.prog)) noFacts_ok (n := 30) (f := 53) waw_O waw_rd rfl (by kernel_rfl) h
noncomputable def waw_v  : Bool := true
theorem waw_spec  : waw_res  = some (waw_v ) := by simp [waw_res, waw_v, rd, Ct.int]
noncomputable def waw_m (args : List RV) (hp : Hp) : Option ((Unit) × List Nat) := match args with
  | [] => some ((), [])
  | _ => none
noncomputable def waw_con : Con Try.prog := conX Try.prog 53 waw_m 0 (fun x => []) (fun x => []) (fun x => none) (fun x => waw_O (waw_v ))
  (by
    intro args hp x r h
    unfold waw_m at h
    split at h
    · cases h
      exact ⟨rfl, fun nx => ⟨rfl, (fun i hi => by cases hi), fun id o0 ho => by simp [hlook] at ho⟩⟩
    · cases h)
  (fun x h => ⟨rfl, rfl, waw_tree (waw_spec )⟩)
noncomputable def consFilm5 : List (Con Try.prog) := [waw_con] ++ consFilm4
end Go.Proofs.Ytkbhnomgkmeojaa
