/- How many bytes are plain. No condition. -/
import Derived.Test.YtcpbiijegbbafaaEngPack1
set_option linter.unusedVariables false
set_option linter.unusedSimpArgs false
namespace Go.Proofs.Ytcpbiijegbbafaa
open Go.RowKit

noncomputable def ppln_L0_S (x0 : List (List Ct)) (x1 : Int) (v : Int) : St := ⟨[.o (.ext 0), .o (.q x1), .d, .d, .o (.val true (.int .i64 0)), .o (.q v), .d, .d, .d, .d, .d, .d, .d, .d, .d, .d, .d, .d, .d, .d, .d, .d, .d, .d, .d, .d, .d], [(0, .grid ([Sh.int IntKind.u8]) x0)], 1, []⟩
noncomputable def ppln_L0_T (x0 : List (List Ct)) (x1 : Int) (v : Int) : Ex × St := ((.exit 0), ⟨(ppln_L0_S x0 x1 v).fr, (ppln_L0_S x0 x1 v).hp, 9, []⟩)
noncomputable def ppln_L0_rd (ex : Ex) (s : St) : Option ((Int) ⊕ (Int)) × List (Nat × Option Nat) := match ex with
  | .normal => (some (.inl (rI (frC s 5 0))), [])
  | .exit i => bif Nat.beq i 0 then (some (.inr (rI (frC s 5 0))), []) else (none, [])
  | _ => (none, [])
noncomputable def ppln_L0_step (x0 : List (List Ct)) (x1 : Int) : (Int) → Option ((Int) ⊕ (Int)) := fun v => match v with
  | vi0 => bif (decide (vi0 < (128 : Int))) then (bif (decide (IntKind.i64.wrap (x1 + vi0) < (↑x0.length : Int))) then (bif (prun_L0_p x0 (IntKind.i64.wrap (x1 + vi0)) (3 : Int)) then bif (decide (prun_v x0 (IntKind.i64.wrap (x1 + vi0)) (3 : Int) < (3 : Int))) then (some (.inl (IntKind.i64.wrap (vi0 + (1 : Int))))) else some (.inr vi0) else none) else some (.inr vi0)) else some (.inr vi0)
noncomputable def ppln_L0_c : Code := loopC Try.prog 135 0
set_option maxRecDepth 100000 in
theorem ppln_L0_ok (x0 : List (List Ct)) (x1 : Int) : ∀ v, StepOk Try.prog 1 ppln_L0_c (ppln_L0_S x0 x1) (ppln_L0_T x0 x1) v (ppln_L0_step x0 x1 v) := fun v => match v with | vi0 => eng_step (C := (⟨consPack1, fun _ _ _ => none, fun f => false, noFacts, fun _ => 0⟩ : Cfg Try.prog)) noFacts_ok (n := 30) (f := 135) ppln_L0_rd (fun _ => rfl) (by kernel_rfl)
noncomputable def ppln_L0_p (x0 : List (List Ct)) (x1 : Int) : Bool := (iter (ppln_L0_step x0 x1) 1000 1).isSome
noncomputable def ppln_L0_v (x0 : List (List Ct)) (x1 : Int) : Int := loopRes (ppln_L0_step x0 x1) 1000 1
set_option maxRecDepth 100000 in
noncomputable def ppln_L0_lc (x0 : List (List Ct)) (x1 : Int) : LoopCon Try.prog := loopCon Try.prog 1 ppln_L0_c [] (ppln_L0_S x0 x1) (ppln_L0_T x0 x1) 0 (ppln_L0_step x0 x1) (ppln_L0_ok x0 x1) 1000 1 (ppln_L0_p x0 x1) rfl (ppln_L0_v x0 x1) rfl
noncomputable def ppln_O (v : Int) : Out := ⟨.sv (.one (.val false (.int .i64 v))), [], 9, []⟩
noncomputable def ppln_rd (out : Out) : Option (Int) := some (rI (rvC out.v 0 0))
noncomputable def ppln_res (x0 : List (List Ct)) (x1 : Int) : Option (Int) := bif (ppln_L0_p x0 x1) then some (ppln_L0_v x0 x1) else none
set_option maxRecDepth 100000 in
theorem ppln_tree {x0 : List (List Ct)} {x1 : Int} {v : Int} (h : ppln_res x0 x1 = some v) : CallOk Try.prog 135 [.sv (.one (.ext 0)), .sv (.one (.val false (.int .i64 x1)))] [(0, .grid [.int .u8] x0)] 1 (ppln_O v) :=
  eng_tree (C := (⟨consPack1, fun f id nx => bif Nat.beq f 135 then (bif Nat.beq id 0 then some (ppln_L0_lc x0 x1) else none) else none, fun f => false, noFacts, fun _ => 0⟩ : Cfg Try.prog)) noFacts_ok (n := 30) (f := 135) ppln_O ppln_rd rfl (by kernel_rfl) h
noncomputable def ppln_v (x0 : List (List Ct)) (x1 : Int) : Int := (ppln_L0_v x0 x1)
theorem ppln_spec (x0 : List (List Ct)) (x1 : Int) (h : (ppln_L0_p x0 x1) = true) : ppln_res x0 x1 = some (ppln_v x0 x1) := by
  simp only [ppln_res, ppln_v, h, cond_true]
noncomputable def ppln_m (args : List RV) (hp : Hp) : Option ((List (List Ct) × Int) × List Nat) := match args with
  | [.sv (.one (.ext i0)), .sv (.one (.val _ (.int .i64 x1)))] => (match gridAt hp i0 [.int .u8] with
    | some x0 => some ((x0, x1), [i0])
    | _ => none)
  | _ => none
noncomputable def ppln_con : Con Try.prog := conX Try.prog 135 ppln_m 1 (fun x => [.sv (.one (.ext 0)), .sv (.one (.val false (.int .i64 x.2)))]) (fun x => [(0, .grid [.int .u8] x.1)]) (fun x => some (ppln_L0_p x.1 x.2)) (fun x => ppln_O (ppln_v x.1 x.2))
  (by
    intro args hp x r h
    unfold ppln_m at h
    split at h
    · split at h
      · rename_i g0
        cases h
        refine ⟨rfl, fun nx => ⟨rfl, ?_, ?_⟩⟩
        · intro i hi
          simp only [List.mem_cons, List.not_mem_nil, or_false] at hi
          rcases hi with rfl
          · exact ⟨_, List.mem_of_getElem? (i := 0) rfl, .inl (by simp [RV.ids, SV.ids, CV.ids])⟩
        · intro id o0 ho
          have := hlook_mem ho
          simp only [List.mem_cons, Prod.mk.injEq, List.not_mem_nil, or_false] at this
          rcases this with ⟨rfl, rfl⟩
          · exact ⟨_, gridAt_spec g0, rfl⟩
      · cases h
    · cases h)
  (fun x h => ⟨rfl, rfl, ppln_tree (ppln_spec x.1 x.2 (h _ rfl))⟩)
noncomputable def consPack2 : List (Con Try.prog) := [ppln_con.freeze] ++ consPack1
end Go.Proofs.Ytcpbiijegbbafaa
