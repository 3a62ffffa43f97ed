/- The same lines. No condition. -/
import Derived.Test.YtjjijaeoafeocaaEngGl1
set_option linter.unusedVariables false
set_option linter.unusedSimpArgs false
namespace Go.Proofs.Ytjjijaeoafeocaa
open Go.RowKit

noncomputable def sam_L0_S (x0 : List (List Ct)) (x1 : List (List Ct)) (v : Int) : St := ⟨[.o (.ext 0), .o (.ext 1), .d, .d, .o (.val true (.bool false)), .d, .o (.ext 0), .o (.q (↑x0.length : Int)), .o (.ext 1), .o (.q (↑x1.length : Int)), .o (.val true (.bool false)), .o (.ext 0), .o (.q (↑x0.length : Int)), .o (.q v), .d, .d, .d, .d, .d, .d, .d, .d, .d, .d, .d, .d], [(0, .grid ([Sh.str]) x0), (1, .grid ([Sh.str]) x1)], 3, []⟩
noncomputable def sam_L0_T (x0 : List (List Ct)) (x1 : List (List Ct)) : (Int) ⊕ (Unit) → Ex × St
  | .inl v => ((.exit 0), ⟨[.o (.ext 0), .o (.ext 1), .d, .d, .o (.val true (.bool false)), .d, .o (.ext 0), .o (.q (↑x0.length : Int)), .o (.ext 1), .o (.q (↑x1.length : Int)), .o (.val true (.bool false)), .o (.ext 0), .o (.q (↑x0.length : Int)), .o (.q v), .d, .d, .d, .d, .d, .d, .d, .d, .d, .d, .d, .d], [(0, .grid ([Sh.str]) x0), (1, .grid ([Sh.str]) x1)], 4, []⟩)
  | .inr v => (.ret, ⟨[.dead, .dead, .dead, .dead, .sv (.one (.val true (.bool false))), .dead, .dead, .dead, .dead, .dead, .dead, .dead, .dead, .dead, .dead, .dead, .dead, .dead, .dead, .dead, .dead, .dead, .dead, .dead, .dead, .dead], [(0, .grid ([Sh.str]) x0), (1, .grid ([Sh.str]) x1)], 7, []⟩)
noncomputable def sam_L0_rd (ex : Ex) (s : St) : Option ((Int) ⊕ ((Int) ⊕ (Unit))) × List (Nat × Option Nat) := match ex with
  | .normal => (some (.inl (rI (frC s 13 0))), [])
  | .exit i => bif Nat.beq i 0 then (some (.inr (.inl (rI (frC s 13 0)))), []) else (none, [])
  | .ret => (some (.inr (.inr ())), [])
noncomputable def sam_L0_step (x0 : List (List Ct)) (x1 : List (List Ct)) : (Int) → Option ((Int) ⊕ ((Int) ⊕ (Unit))) := fun v => match v with
  | vi0 => bif (decide (vi0 < (↑x0.length : Int))) then (bif (decide ((0 : Int) ≤ vi0 ∧ vi0 < (↑x0.length : Int))) then bif (decide ((0 : Int) ≤ vi0 ∧ vi0 < (↑x1.length : Int))) then bif (!(rd x0 vi0.toNat 0).str.toList == (rd x1 vi0.toNat 0).str.toList) then (some (.inr (.inr ()))) else some (.inl (IntKind.i64.wrap (vi0 + (1 : Int)))) else none else none) else some (.inr (.inl vi0))
noncomputable def sam_L0_c : Code := loopC Try.prog 9 0
set_option maxRecDepth 100000 in
theorem sam_L0_ok (x0 : List (List Ct)) (x1 : List (List Ct)) : ∀ v, StepOk Try.prog 2 sam_L0_c (sam_L0_S x0 x1) (sam_L0_T x0 x1) v (sam_L0_step x0 x1 v) := fun v => match v with | vi0 => eng_step (C := (⟨[], fun _ _ _ => none, fun f => false, noFacts, fun _ => 104⟩ : Cfg Try.prog)) noFacts_ok (n := 30) (f := 9) sam_L0_rd (fun r => by cases r <;> rfl) (by kernel_rfl)
noncomputable def sam_L0_p (x0 : List (List Ct)) (x1 : List (List Ct)) : Bool := (iter (sam_L0_step x0 x1) (x0.length + 1) 0).isSome
noncomputable def sam_L0_v (x0 : List (List Ct)) (x1 : List (List Ct)) : (Int) ⊕ (Unit) := (iter (sam_L0_step x0 x1) (x0.length + 1) 0).getD (.inl default)
set_option maxRecDepth 100000 in
noncomputable def sam_L0_lc (x0 : List (List Ct)) (x1 : List (List Ct)) : LoopCon Try.prog := loopCon2 Try.prog 2 sam_L0_c [] (sam_L0_S x0 x1) (sam_L0_T x0 x1) 0 (sam_L0_step x0 x1) (sam_L0_ok x0 x1) (x0.length + 1) 0 (sam_L0_p x0 x1) rfl (sam_L0_v x0 x1) rfl
noncomputable def sam_O (v : Bool) : Out := ⟨.sv (.one (.val false (.bool v))), [], 7, []⟩
noncomputable def sam_rd (out : Out) : Option (Bool) := some (rB (rvC out.v 0 0))
noncomputable def sam_res (x0 : List (List Ct)) (x1 : List (List Ct)) : Option (Bool) := bif ((↑x0.length : Int) != (↑x1.length : Int)) then (some false) else bif (sam_L0_p x0 x1) then bif (isL (sam_L0_v x0 x1)) then (some true) else some false else none
set_option maxRecDepth 100000 in
theorem sam_tree {x0 : List (List Ct)} {x1 : List (List Ct)} {v : Bool} (h : sam_res x0 x1 = some v) : CallOk Try.prog 9 [.sv (.one (.ext 0)), .sv (.one (.ext 1))] [(0, .grid [.str] x0), (1, .grid [.str] x1)] 2 (sam_O v) :=
  eng_tree (C := (⟨[], fun f id nx => bif Nat.beq f 9 then (bif Nat.beq id 0 then some (sam_L0_lc x0 x1) else none) else none, fun f => false, noFacts, fun _ => 104⟩ : Cfg Try.prog)) noFacts_ok (n := 30) (f := 9) sam_O sam_rd rfl (by kernel_rfl) h
noncomputable def sam_v (x0 : List (List Ct)) (x1 : List (List Ct)) : Bool := (sam_res x0 x1).getD default
theorem sam_spec (x0 : List (List Ct)) (x1 : List (List Ct)) (h : ((sam_res x0 x1).isSome) = true) : sam_res x0 x1 = some (sam_v x0 x1) := opt_get h
noncomputable def sam_m (args : List RV) (hp : Hp) : Option ((List (List Ct) × List (List Ct)) × List Nat) := match args with
  | [.sv (.one (.ext i0)), .sv (.one (.ext i1))] => (match gridAt hp i0 [.str], gridAt hp i1 [.str] with
    | some x0, some x1 => some ((x0, x1), [i0, i1])
    | _, _ => none)
  | _ => none
noncomputable def sam_con : Con Try.prog := conX Try.prog 9 sam_m 2 (fun x => [.sv (.one (.ext 0)), .sv (.one (.ext 1))]) (fun x => [(0, .grid [.str] x.1), (1, .grid [.str] x.2)]) (fun x => some ((sam_res x.1 x.2).isSome)) (fun x => sam_O (sam_v x.1 x.2))
  (by
    intro args hp x r h
    unfold sam_m at h
    split at h
    · split at h
      · rename_i g0 g1
        cases h
        refine ⟨rfl, fun nx => ⟨rfl, ?_, ?_⟩⟩
        · intro i hi
          simp only [List.mem_cons, List.not_mem_nil, or_false] at hi
          rcases hi with rfl | rfl
          · exact ⟨_, List.mem_of_getElem? (i := 0) rfl, .inl (by simp [RV.ids, SV.ids, CV.ids])⟩
          · exact ⟨_, List.mem_of_getElem? (i := 1) rfl, .inl (by simp [RV.ids, SV.ids, CV.ids])⟩
        · intro id o0 ho
          have := hlook_mem ho
          simp only [List.mem_cons, Prod.mk.injEq, List.not_mem_nil, or_false] at this
          rcases this with ⟨rfl, rfl⟩ | ⟨rfl, rfl⟩
          · exact ⟨_, gridAt_spec g0, rfl⟩
          · exact ⟨_, gridAt_spec g1, rfl⟩
      · cases h
    · cases h)
  (fun x h => ⟨rfl, rfl, sam_tree (sam_spec x.1 x.2 (h _ rfl))⟩)
noncomputable def consGl3 : List (Con Try.prog) := [sam_con.freeze] ++ consGl1
end Go.Proofs.Ytjjijaeoafeocaa
