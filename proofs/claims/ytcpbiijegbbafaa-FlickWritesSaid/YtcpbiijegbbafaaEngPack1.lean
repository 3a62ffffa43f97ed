/- How often a byte stands there. No condition. -/
import Derived.Test.YtcpbiijegbbafaaEngPack
import Derived.Test.YtcpbiijegbbafaaLoopA
set_option linter.unusedVariables false
set_option linter.unusedSimpArgs false
namespace Go.Proofs.Ytcpbiijegbbafaa
open Go.RowKit

noncomputable def prun_L0_S (x0 : List (List Ct)) (x1 x2 v : Int) : St := ⟨[.o (.ext 0), .o (.q x1), .o (.q x2), .d, .d, .d, .o (.val true (.int .i64 0)), .o (.q v), .d, .d, .d, .d, .d, .d, .d, .d, .d, .d, .d, .d, .d, .d, .d, .d, .d, .d, .d, .d, .d, .d, .d, .d, .d, .d, .d], [(0, .grid ([Sh.int IntKind.u8]) x0)], 1, []⟩
noncomputable def prun_L0_T (x0 : List (List Ct)) (x1 x2 v : Int) : Ex × St := ((.exit 0), ⟨(prun_L0_S x0 x1 x2 v).fr, (prun_L0_S x0 x1 x2 v).hp, 6, []⟩)
noncomputable def prun_L0_rd (ex : Ex) (s : St) : Option ((Int) ⊕ (Int)) × List (Nat × Option Nat) := match ex with
  | .normal => (some (.inl (rI (frC s 7 0))), [])
  | .exit i => bif Nat.beq i 0 then (some (.inr (rI (frC s 7 0))), []) else (none, [])
  | _ => (none, [])
noncomputable def prun_L0_step (x0 : List (List Ct)) (x1 : Int) (x2 : Int) : (Int) → Option ((Int) ⊕ (Int)) := fun v => match v with
  | vi0 => bif (decide (vi0 < x2)) then (bif (decide (IntKind.i64.wrap (x1 + vi0) < (↑x0.length : Int))) then (bif (decide ((0 : Int) ≤ IntKind.i64.wrap (x1 + vi0) ∧ IntKind.i64.wrap (x1 + vi0) < (↑x0.length : Int))) then bif (decide ((0 : Int) ≤ x1 ∧ x1 < (↑x0.length : Int))) then bif ((rd x0 (IntKind.i64.wrap (x1 + vi0)).toNat 0).int == (rd x0 x1.toNat 0).int) then (some (.inl (IntKind.i64.wrap (vi0 + (1 : Int))))) else some (.inr vi0) else none else none) else some (.inr vi0)) else some (.inr vi0)
noncomputable def prun_L0_c : Code := loopC Try.prog 134 0
set_option maxRecDepth 100000 in
theorem prun_L0_ok (x0 : List (List Ct)) (x1 : Int) (x2 : Int) : ∀ v, StepOk Try.prog 1 prun_L0_c (prun_L0_S x0 x1 x2) (prun_L0_T x0 x1 x2) v (prun_L0_step x0 x1 x2 v) := fun v => match v with | vi0 => eng_step (C := (⟨consPack, fun _ _ _ => none, fun f => false, noFacts, fun _ => 0⟩ : Cfg Try.prog)) noFacts_ok (n := 30) (f := 134) prun_L0_rd (fun _ => rfl) (by kernel_rfl)
noncomputable def prun_L0_p (x0 : List (List Ct)) (x1 : Int) (x2 : Int) : Bool := (iter (prun_L0_step x0 x1 x2) 1000 1).isSome
noncomputable def prun_L0_v (x0 : List (List Ct)) (x1 : Int) (x2 : Int) : Int := loopRes (prun_L0_step x0 x1 x2) 1000 1
set_option maxRecDepth 100000 in
noncomputable def prun_L0_lc (x0 : List (List Ct)) (x1 : Int) (x2 : Int) : LoopCon Try.prog := loopCon Try.prog 1 prun_L0_c [] (prun_L0_S x0 x1 x2) (prun_L0_T x0 x1 x2) 0 (prun_L0_step x0 x1 x2) (prun_L0_ok x0 x1 x2) 1000 1 (prun_L0_p x0 x1 x2) rfl (prun_L0_v x0 x1 x2) rfl
noncomputable def prun_O (v : Int) : Out := ⟨.sv (.one (.val false (.int .i64 v))), [], 6, []⟩
noncomputable def prun_rd (out : Out) : Option (Int) := some (rI (rvC out.v 0 0))
noncomputable def prun_res (x0 : List (List Ct)) (x1 : Int) (x2 : Int) : Option (Int) := bif (prun_L0_p x0 x1 x2) then some (prun_L0_v x0 x1 x2) else none
set_option maxRecDepth 100000 in
theorem prun_tree {x0 : List (List Ct)} {x1 x2 v : Int} (h : prun_res x0 x1 x2 = some v) : CallOk Try.prog 134 [.sv (.one (.ext 0)), .sv (.one (.val false (.int .i64 x1))), .sv (.one (.val false (.int .i64 x2)))] [(0, .grid [.int .u8] x0)] 1 (prun_O v) :=
  eng_tree (C := (⟨consPack, fun f id nx => bif Nat.beq f 134 then (bif Nat.beq id 0 then some (prun_L0_lc x0 x1 x2) else none) else none, fun f => false, noFacts, fun _ => 0⟩ : Cfg Try.prog)) noFacts_ok (n := 30) (f := 134) prun_O prun_rd rfl (by kernel_rfl) h
noncomputable def prun_v (x0 : List (List Ct)) (x1 : Int) (x2 : Int) : Int := (prun_L0_v x0 x1 x2)
theorem prun_spec (x0 : List (List Ct)) (x1 : Int) (x2 : Int) (h : (prun_L0_p x0 x1 x2) = true) : prun_res x0 x1 x2 = some (prun_v x0 x1 x2) := by
  simp only [prun_res, prun_v, h, cond_true]
noncomputable def prun_m (args : List RV) (hp : Hp) : Option ((List (List Ct) × Int × Int) × List Nat) := match args with
  | [.sv (.one (.ext i0)), .sv (.one (.val _ (.int .i64 x1))), .sv (.one (.val _ (.int .i64 x2)))] => (match gridAt hp i0 [.int .u8] with
    | some x0 => some ((x0, x1, x2), [i0])
    | _ => none)
  | _ => none
noncomputable def prun_con : Con Try.prog := conX Try.prog 134 prun_m 1 (fun x => [.sv (.one (.ext 0)), .sv (.one (.val false (.int .i64 x.2.1))), .sv (.one (.val false (.int .i64 x.2.2)))]) (fun x => [(0, .grid [.int .u8] x.1)]) (fun x => some (prun_L0_p x.1 x.2.1 x.2.2)) (fun x => prun_O (prun_v x.1 x.2.1 x.2.2))
  (by
    intro args hp x r h
    unfold prun_m at h
    split at h
    · split at h
      · rename_i g0
        cases h
        refine ⟨rfl, fun nx => ⟨rfl, ?_, ?_⟩⟩
        · intro i hi
          simp only [List.mem_cons, List.not_mem_nil, or_false] at hi
          rcases hi with rfl
          · exact ⟨_, List.mem_of_getElem? (i := 0) rfl, .inl (by simp [RV.ids, SV.ids, CV.ids])⟩
        · intro id o0 ho
          have := hlook_mem ho
          simp only [List.mem_cons, Prod.mk.injEq, List.not_mem_nil, or_false] at this
          rcases this with ⟨rfl, rfl⟩
          · exact ⟨_, gridAt_spec g0, rfl⟩
      · cases h
    · cases h)
  (fun x h => ⟨rfl, rfl, prun_tree (prun_spec x.1 x.2.1 x.2.2 (h _ rfl))⟩)

noncomputable def palk_L0_S (x0 : List (List Ct)) (x1 : Int) (v : Int × Int) : St := ⟨[.o (.ext 0), .o (.q x1), .d, .d, .o (.val true (.int .i64 0)), .o (.q v.1), .o (.q v.2), .o (.q x1), .d, .d, .d, .d, .d, .d, .d, .d, .d, .d, .d, .d, .d, .d, .d, .d, .d, .d, .d, .d], [(0, .grid ([Sh.int IntKind.u8]) x0)], 1, []⟩
noncomputable def palk_L0_T (x0 : List (List Ct)) (x1 : Int) (v : Int × Int) : Ex × St := ((.exit 0), ⟨(palk_L0_S x0 x1 v).fr, (palk_L0_S x0 x1 v).hp, 5, []⟩)
noncomputable def palk_L0_rd (ex : Ex) (s : St) : Option ((Int × Int) ⊕ (Int × Int)) × List (Nat × Option Nat) := match ex with
  | .normal => (some (.inl (rI (frC s 5 0), rI (frC s 6 0))), [])
  | .exit i => bif Nat.beq i 0 then (some (.inr (rI (frC s 5 0), rI (frC s 6 0))), []) else (none, [])
  | _ => (none, [])
noncomputable def palk_L0_step (x0 : List (List Ct)) (x1 : Int) : (Int × Int) → Option ((Int × Int) ⊕ (Int × Int)) := fun v => match v with
  | (vi0, vi1) => bif (decide (vi1 < (↑x0.length : Int))) then (bif (decide ((0 : Int) ≤ vi1 ∧ vi1 < (↑x0.length : Int))) then bif (decide ((0 : Int) ≤ x1 ∧ x1 < (↑x0.length : Int))) then bif ((rd x0 vi1.toNat 0).int == (rd x0 x1.toNat 0).int) then (some (.inl (IntKind.i64.wrap (vi0 + (1 : Int)), IntKind.i64.wrap (vi1 + (1 : Int))))) else some (.inr (vi0, vi1)) else none else none) else some (.inr (vi0, vi1))
noncomputable def palk_L0_c : Code := loopC Try.prog 125 0
set_option maxRecDepth 100000 in
theorem palk_L0_ok (x0 : List (List Ct)) (x1 : Int) : ∀ v, StepOk Try.prog 1 palk_L0_c (palk_L0_S x0 x1) (palk_L0_T x0 x1) v (palk_L0_step x0 x1 v) := fun v => match v with | (vi0, vi1) => eng_step (C := (⟨consPack, fun _ _ _ => none, fun f => false, noFacts, fun _ => 0⟩ : Cfg Try.prog)) noFacts_ok (n := 30) (f := 125) palk_L0_rd (fun _ => rfl) (by kernel_rfl)
noncomputable def palk_L0_p (x0 : List (List Ct)) (x1 : Int) : Bool := (iter (palk_L0_step x0 x1) (x0.length + 1) (0, x1)).isSome
noncomputable def palk_L0_v (x0 : List (List Ct)) (x1 : Int) : Int × Int := loopRes (palk_L0_step x0 x1) (x0.length + 1) (0, x1)
set_option maxRecDepth 100000 in
noncomputable def palk_L0_lc (x0 : List (List Ct)) (x1 : Int) : LoopCon Try.prog := loopCon Try.prog 1 palk_L0_c [] (palk_L0_S x0 x1) (palk_L0_T x0 x1) 0 (palk_L0_step x0 x1) (palk_L0_ok x0 x1) (x0.length + 1) (0, x1) (palk_L0_p x0 x1) rfl (palk_L0_v x0 x1) rfl
noncomputable def palk_O (v : Int) : Out := ⟨.sv (.one (.val false (.int .i64 v))), [], 5, []⟩
noncomputable def palk_rd (out : Out) : Option (Int) := some (rI (rvC out.v 0 0))
noncomputable def palk_res (x0 : List (List Ct)) (x1 : Int) : Option (Int) := bif (palk_L0_p x0 x1) then some ((palk_L0_v x0 x1).fst) else none
set_option maxRecDepth 100000 in
theorem palk_tree {x0 : List (List Ct)} {x1 : Int} {v : Int} (h : palk_res x0 x1 = some v) : CallOk Try.prog 125 [.sv (.one (.ext 0)), .sv (.one (.val false (.int .i64 x1)))] [(0, .grid [.int .u8] x0)] 1 (palk_O v) :=
  eng_tree (C := (⟨consPack, fun f id nx => bif Nat.beq f 125 then (bif Nat.beq id 0 then some (palk_L0_lc x0 x1) else none) else none, fun f => false, noFacts, fun _ => 0⟩ : Cfg Try.prog)) noFacts_ok (n := 30) (f := 125) palk_O palk_rd rfl (by kernel_rfl) h
noncomputable def palk_v (x0 : List (List Ct)) (x1 : Int) : Int := ((palk_L0_v x0 x1).fst)
theorem palk_spec (x0 : List (List Ct)) (x1 : Int) (h : (palk_L0_p x0 x1) = true) : palk_res x0 x1 = some (palk_v x0 x1) := by
  simp only [palk_res, palk_v, h, cond_true]
noncomputable def palk_m (args : List RV) (hp : Hp) : Option ((List (List Ct) × Int) × List Nat) := match args with
  | [.sv (.one (.ext i0)), .sv (.one (.val _ (.int .i64 x1)))] => (match gridAt hp i0 [.int .u8] with
    | some x0 => some ((x0, x1), [i0])
    | _ => none)
  | _ => none
noncomputable def palk_con : Con Try.prog := conX Try.prog 125 palk_m 1 (fun x => [.sv (.one (.ext 0)), .sv (.one (.val false (.int .i64 x.2)))]) (fun x => [(0, .grid [.int .u8] x.1)]) (fun x => some (palk_L0_p x.1 x.2)) (fun x => palk_O (palk_v x.1 x.2))
  (by
    intro args hp x r h
    unfold palk_m at h
    split at h
    · split at h
      · rename_i g0
        cases h
        refine ⟨rfl, fun nx => ⟨rfl, ?_, ?_⟩⟩
        · intro i hi
          simp only [List.mem_cons, List.not_mem_nil, or_false] at hi
          rcases hi with rfl
          · exact ⟨_, List.mem_of_getElem? (i := 0) rfl, .inl (by simp [RV.ids, SV.ids, CV.ids])⟩
        · intro id o0 ho
          have := hlook_mem ho
          simp only [List.mem_cons, Prod.mk.injEq, List.not_mem_nil, or_false] at this
          rcases this with ⟨rfl, rfl⟩
          · exact ⟨_, gridAt_spec g0, rfl⟩
      · cases h
    · cases h)
  (fun x h => ⟨rfl, rfl, palk_tree (palk_spec x.1 x.2 (h _ rfl))⟩)
noncomputable def consPack1 : List (Con Try.prog) := [prun_con.freeze, palk_con.freeze] ++ consPack
end Go.Proofs.Ytcpbiijegbbafaa
