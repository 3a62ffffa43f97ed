/- EngPack1, EngPack2, EngPack3, EngPack4, EngPack5, EngPack6, EngPack7, laid together. No condition. -/
import Derived.Test.YtcpbiijegbbafaaEngPack
import Derived.Test.YtcpbiijegbbafaaLoopA
/- How often a byte stands there. No condition. -/
set_option linter.unusedVariables false
set_option linter.unusedSimpArgs false
namespace Go.Proofs.Ytcpbiijegbbafaa
open Go.RowKit

noncomputable def prun_L0_S (x0 : List (List Ct)) (x1 x2 v : Int) : St := ⟨[.o (.ext 0), .o (.q x1), .o (.q x2), .d, .d, .d, .o (.val true (.int .i64 0)), .o (.q v), .d, .d, .d, .d, .d, .d, .d, .d, .d, .d, .d, .d, .d, .d, .d, .d, .d, .d, .d, .d, .d, .d, .d, .d, .d, .d, .d], [(0, .grid ([Sh.int IntKind.u8]) x0)], 1, []⟩
noncomputable def prun_L0_T (x0 : List (List Ct)) (x1 x2 v : Int) : Ex × St := ((.exit 0), ⟨(prun_L0_S x0 x1 x2 v).fr, (prun_L0_S x0 x1 x2 v).hp, 6, []⟩)
noncomputable def prun_L0_rd (ex : Ex) (s : St) : Option ((Int) ⊕ (Int)) × List (Nat × Option Nat) := match ex with
  | .normal => (some (.inl (rI (frC s 7 0))), [])
  | .exit i => bif Nat.beq i 0 then (some (.inr (rI (frC s 7 0))), []) else (none, [])
  | _ => (none, [])
noncomputable def prun_L0_step (x0 : List (List Ct)) (x1 : Int) (x2 : Int) : (Int) → Option ((Int) ⊕ (Int)) := fun v => match v with
  | vi0 => bif (decide (vi0 < x2)) then (bif (decide (IntKind.i64.wrap (x1 + vi0) < (↑x0.length : Int))) then (bif (decide ((0 : Int) ≤ IntKind.i64.wrap (x1 + vi0) ∧ IntKind.i64.wrap (x1 + vi0) < (↑x0.length : Int))) then bif (decide ((0 : Int) ≤ x1 ∧ x1 < (↑x0.length : Int))) then bif ((rd x0 (IntKind.i64.wrap (x1 + vi0)).toNat 0).int == (rd x0 x1.toNat 0).int) then (some (.inl (IntKind.i64.wrap (vi0 + (1 : Int))))) else some (.inr vi0) else none else none) else some (.inr vi0)) else some (.inr vi0)
noncomputable def prun_L0_c : Code := loopC Try.prog 134 0
set_option maxRecDepth 100000 in
theorem prun_L0_ok (x0 : List (List Ct)) (x1 : Int) (x2 : Int) : ∀ v, StepOk Try.prog 1 prun_L0_c (prun_L0_S x0 x1 x2) (prun_L0_T x0 x1 x2) v (prun_L0_step x0 x1 x2 v) := fun v => match v with | vi0 => eng_step (C := (⟨consPack, fun _ _ _ => none, fun f => false, noFacts, fun _ => 0⟩ : Cfg Try.prog)) noFacts_ok (n := 30) (f := 134) prun_L0_rd (fun _ => rfl) (by kernel_rfl)
noncomputable def prun_L0_p (x0 : List (List Ct)) (x1 : Int) (x2 : Int) : Bool := (iter (prun_L0_step x0 x1 x2) 1000 1).isSome
noncomputable def prun_L0_v (x0 : List (List Ct)) (x1 : Int) (x2 : Int) : Int := loopRes (prun_L0_step x0 x1 x2) 1000 1
set_option maxRecDepth 100000 in
noncomputable def prun_L0_lc (x0 : List (List Ct)) (x1 : Int) (x2 : Int) : LoopCon Try.prog := loopCon Try.prog 1 prun_L0_c [] (prun_L0_S x0 x1 x2) (prun_L0_T x0 x1 x2) 0 (prun_L0_step x0 x1 x2) (prun_L0_ok x0 x1 x2) 1000 1 (prun_L0_p x0 x1 x2) rfl (prun_L0_v x0 x1 x2) rfl
noncomputable def prun_O (v : Int) : Out := ⟨.sv (.one (.val false (.int .i64 v))), [], 6, []⟩
noncomputable def prun_rd (out : Out) : Option (Int) := some (rI (rvC out.v 0 0))
noncomputable def prun_res (x0 : List (List Ct)) (x1 : Int) (x2 : Int) : Option (Int) := bif (prun_L0_p x0 x1 x2) then some (prun_L0_v x0 x1 x2) else none
set_option maxRecDepth 100000 in
theorem prun_tree {x0 : List (List Ct)} {x1 x2 v : Int} (h : prun_res x0 x1 x2 = some v) : CallOk Try.prog 134 [.sv (.one (.ext 0)), .sv (.one (.val false (.int .i64 x1))), .sv (.one (.val false (.int .i64 x2)))] [(0, .grid [.int .u8] x0)] 1 (prun_O v) :=
  eng_tree (C := (⟨consPack, fun f id nx => bif Nat.beq f 134 then (bif Nat.beq id 0 then some (prun_L0_lc x0 x1 x2) else none) else none, fun f => false, noFacts, fun _ => 0⟩ : Cfg Try.prog)) noFacts_ok (n := 30) (f := 134) prun_O prun_rd rfl (by kernel_rfl) h
noncomputable def prun_v (x0 : List (List Ct)) (x1 : Int) (x2 : Int) : Int := (prun_L0_v x0 x1 x2)
theorem prun_spec (x0 : List (List Ct)) (x1 : Int) (x2 : Int) (h : (prun_L0_p x0 x1 x2) = true) : prun_res x0 x1 x2 = some (prun_v x0 x1 x2) := by
  simp only [prun_res, prun_v, h, cond_true]
noncomputable def prun_m (args : List RV) (hp : Hp) : Option ((List (List Ct) × Int × Int) × List Nat) := match args with
  | [.sv (.one (.ext i0)), .sv (.one (.val _ (.int .i64 x1))), .sv (.one (.val _ (.int .i64 x2)))] => (match gridAt hp i0 [.int .u8] with
    | some x0 => some ((x0, x1, x2), [i0])
    | _ => none)
  | _ => none
noncomputable def prun_con : Con Try.prog := conX Try.prog 134 prun_m 1 (fun x => [.sv (.one (.ext 0)), .sv (.one (.val false (.int .i64 x.2.1))), .sv (.one (.val false (.int .i64 x.2.2)))]) (fun x => [(0, .grid [.int .u8] x.1)]) (fun x => some (prun_L0_p x.1 x.2.1 x.2.2)) (fun x => prun_O (prun_v x.1 x.2.1 x.2.2))
  (by
    intro args hp x r h
    unfold prun_m at h
    split at h
    · split at h
      · rename_i g0
        cases h
        refine ⟨rfl, fun nx => ⟨rfl, ?_, ?_⟩⟩
        · intro i hi
          simp only [List.mem_cons, List.not_mem_nil, or_false] at hi
          rcases hi with rfl
          · exact ⟨_, List.mem_of_getElem? (i := 0) rfl, .inl (by simp [RV.ids, SV.ids, CV.ids])⟩
        · intro id o0 ho
          have := hlook_mem ho
          simp only [List.mem_cons, Prod.mk.injEq, List.not_mem_nil, or_false] at this
          rcases this with ⟨rfl, rfl⟩
          · exact ⟨_, gridAt_spec g0, rfl⟩
      · cases h
    · cases h)
  (fun x h => ⟨rfl, rfl, prun_tree (prun_spec x.1 x.2.1 x.2.2 (h _ rfl))⟩)

noncomputable def palk_L0_S (x0 : List (List Ct)) (x1 : Int) (v : Int × Int) : St := ⟨[.o (.ext 0), .o (.q x1), .d, .d, .o (.val true (.int .i64 0)), .o (.q v.1), .o (.q v.2), .o (.q x1), .d, .d, .d, .d, .d, .d, .d, .d, .d, .d, .d, .d, .d, .d, .d, .d, .d, .d, .d, .d], [(0, .grid ([Sh.int IntKind.u8]) x0)], 1, []⟩
noncomputable def palk_L0_T (x0 : List (List Ct)) (x1 : Int) (v : Int × Int) : Ex × St := ((.exit 0), ⟨(palk_L0_S x0 x1 v).fr, (palk_L0_S x0 x1 v).hp, 5, []⟩)
noncomputable def palk_L0_rd (ex : Ex) (s : St) : Option ((Int × Int) ⊕ (Int × Int)) × List (Nat × Option Nat) := match ex with
  | .normal => (some (.inl (rI (frC s 5 0), rI (frC s 6 0))), [])
  | .exit i => bif Nat.beq i 0 then (some (.inr (rI (frC s 5 0), rI (frC s 6 0))), []) else (none, [])
  | _ => (none, [])
noncomputable def palk_L0_step (x0 : List (List Ct)) (x1 : Int) : (Int × Int) → Option ((Int × Int) ⊕ (Int × Int)) := fun v => match v with
  | (vi0, vi1) => bif (decide (vi1 < (↑x0.length : Int))) then (bif (decide ((0 : Int) ≤ vi1 ∧ vi1 < (↑x0.length : Int))) then bif (decide ((0 : Int) ≤ x1 ∧ x1 < (↑x0.length : Int))) then bif ((rd x0 vi1.toNat 0).int == (rd x0 x1.toNat 0).int) then (some (.inl (IntKind.i64.wrap (vi0 + (1 : Int)), IntKind.i64.wrap (vi1 + (1 : Int))))) else some (.inr (vi0, vi1)) else none else none) else some (.inr (vi0, vi1))
noncomputable def palk_L0_c : Code := loopC Try.prog 125 0
set_option maxRecDepth 100000 in
theorem palk_L0_ok (x0 : List (List Ct)) (x1 : Int) : ∀ v, StepOk Try.prog 1 palk_L0_c (palk_L0_S x0 x1) (palk_L0_T x0 x1) v (palk_L0_step x0 x1 v) := fun v => match v with | (vi0, vi1) => eng_step (C := (⟨consPack, fun _ _ _ => none, fun f => false, noFacts, fun _ => 0⟩ : Cfg Try.prog)) noFacts_ok (n := 30) (f := 125) palk_L0_rd (fun _ => rfl) (by kernel_rfl)
noncomputable def palk_L0_p (x0 : List (List Ct)) (x1 : Int) : Bool := (iter (palk_L0_step x0 x1) (x0.length + 1) (0, x1)).isSome
noncomputable def palk_L0_v (x0 : List (List Ct)) (x1 : Int) : Int × Int := loopRes (palk_L0_step x0 x1) (x0.length + 1) (0, x1)
set_option maxRecDepth 100000 in
noncomputable def palk_L0_lc (x0 : List (List Ct)) (x1 : Int) : LoopCon Try.prog := loopCon Try.prog 1 palk_L0_c [] (palk_L0_S x0 x1) (palk_L0_T x0 x1) 0 (palk_L0_step x0 x1) (palk_L0_ok x0 x1) (x0.length + 1) (0, x1) (palk_L0_p x0 x1) rfl (palk_L0_v x0 x1) rfl
noncomputable def palk_O (v : Int) : Out := ⟨.sv (.one (.val false (.int .i64 v))), [], 5, []⟩
noncomputable def palk_rd (out : Out) : Option (Int) := some (rI (rvC out.v 0 0))
noncomputable def palk_res (x0 : List (List Ct)) (x1 : Int) : Option (Int) := bif (palk_L0_p x0 x1) then some ((palk_L0_v x0 x1).fst) else none
set_option maxRecDepth 100000 in
theorem palk_tree {x0 : List (List Ct)} {x1 : Int} {v : Int} (h : palk_res x0 x1 = some v) : CallOk Try.prog 125 [.sv (.one (.ext 0)), .sv (.one (.val false (.int .i64 x1)))] [(0, .grid [.int .u8] x0)] 1 (palk_O v) :=
  eng_tree (C := (⟨consPack, fun f id nx => bif Nat.beq f 125 then (bif Nat.beq id 0 then some (palk_L0_lc x0 x1) else none) else none, fun f => false, noFacts, fun _ => 0⟩ : Cfg Try.prog)) noFacts_ok (n := 30) (f := 125) palk_O palk_rd rfl (by kernel_rfl) h
noncomputable def palk_v (x0 : List (List Ct)) (x1 : Int) : Int := ((palk_L0_v x0 x1).fst)
theorem palk_spec (x0 : List (List Ct)) (x1 : Int) (h : (palk_L0_p x0 x1) = true) : palk_res x0 x1 = some (palk_v x0 x1) := by
  simp only [palk_res, palk_v, h, cond_true]
noncomputable def palk_m (args : List RV) (hp : Hp) : Option ((List (List Ct) × Int) × List Nat) := match args with
  | [.sv (.one (.ext i0)), .sv (.one (.val _ (.int .i64 x1)))] => (match gridAt hp i0 [.int .u8] with
    | some x0 => some ((x0, x1), [i0])
    | _ => none)
  | _ => none
noncomputable def palk_con : Con Try.prog := conX Try.prog 125 palk_m 1 (fun x => [.sv (.one (.ext 0)), .sv (.one (.val false (.int .i64 x.2)))]) (fun x => [(0, .grid [.int .u8] x.1)]) (fun x => some (palk_L0_p x.1 x.2)) (fun x => palk_O (palk_v x.1 x.2))
  (by
    intro args hp x r h
    unfold palk_m at h
    split at h
    · split at h
      · rename_i g0
        cases h
        refine ⟨rfl, fun nx => ⟨rfl, ?_, ?_⟩⟩
        · intro i hi
          simp only [List.mem_cons, List.not_mem_nil, or_false] at hi
          rcases hi with rfl
          · exact ⟨_, List.mem_of_getElem? (i := 0) rfl, .inl (by simp [RV.ids, SV.ids, CV.ids])⟩
        · intro id o0 ho
          have := hlook_mem ho
          simp only [List.mem_cons, Prod.mk.injEq, List.not_mem_nil, or_false] at this
          rcases this with ⟨rfl, rfl⟩
          · exact ⟨_, gridAt_spec g0, rfl⟩
      · cases h
    · cases h)
  (fun x h => ⟨rfl, rfl, palk_tree (palk_spec x.1 x.2 (h _ rfl))⟩)
noncomputable def consPack1 : List (Con Try.prog) := [prun_con.freeze, palk_con.freeze] ++ consPack
end Go.Proofs.Ytcpbiijegbbafaa

/- How many bytes are plain. No condition. -/
set_option linter.unusedVariables false
set_option linter.unusedSimpArgs false
namespace Go.Proofs.Ytcpbiijegbbafaa
open Go.RowKit

noncomputable def ppln_L0_S (x0 : List (List Ct)) (x1 : Int) (v : Int) : St := ⟨[.o (.ext 0), .o (.q x1), .d, .d, .o (.val true (.int .i64 0)), .o (.q v), .d, .d, .d, .d, .d, .d, .d, .d, .d, .d, .d, .d, .d, .d, .d, .d, .d, .d, .d, .d, .d], [(0, .grid ([Sh.int IntKind.u8]) x0)], 1, []⟩
noncomputable def ppln_L0_T (x0 : List (List Ct)) (x1 : Int) (v : Int) : Ex × St := ((.exit 0), ⟨(ppln_L0_S x0 x1 v).fr, (ppln_L0_S x0 x1 v).hp, 9, []⟩)
noncomputable def ppln_L0_rd (ex : Ex) (s : St) : Option ((Int) ⊕ (Int)) × List (Nat × Option Nat) := match ex with
  | .normal => (some (.inl (rI (frC s 5 0))), [])
  | .exit i => bif Nat.beq i 0 then (some (.inr (rI (frC s 5 0))), []) else (none, [])
  | _ => (none, [])
noncomputable def ppln_L0_step (x0 : List (List Ct)) (x1 : Int) : (Int) → Option ((Int) ⊕ (Int)) := fun v => match v with
  | vi0 => bif (decide (vi0 < (128 : Int))) then (bif (decide (IntKind.i64.wrap (x1 + vi0) < (↑x0.length : Int))) then (bif (prun_L0_p x0 (IntKind.i64.wrap (x1 + vi0)) (3 : Int)) then bif (decide (prun_v x0 (IntKind.i64.wrap (x1 + vi0)) (3 : Int) < (3 : Int))) then (some (.inl (IntKind.i64.wrap (vi0 + (1 : Int))))) else some (.inr vi0) else none) else some (.inr vi0)) else some (.inr vi0)
noncomputable def ppln_L0_c : Code := loopC Try.prog 135 0
set_option maxRecDepth 100000 in
theorem ppln_L0_ok (x0 : List (List Ct)) (x1 : Int) : ∀ v, StepOk Try.prog 1 ppln_L0_c (ppln_L0_S x0 x1) (ppln_L0_T x0 x1) v (ppln_L0_step x0 x1 v) := fun v => match v with | vi0 => eng_step (C := (⟨consPack1, fun _ _ _ => none, fun f => false, noFacts, fun _ => 0⟩ : Cfg Try.prog)) noFacts_ok (n := 30) (f := 135) ppln_L0_rd (fun _ => rfl) (by kernel_rfl)
noncomputable def ppln_L0_p (x0 : List (List Ct)) (x1 : Int) : Bool := (iter (ppln_L0_step x0 x1) 1000 1).isSome
noncomputable def ppln_L0_v (x0 : List (List Ct)) (x1 : Int) : Int := loopRes (ppln_L0_step x0 x1) 1000 1
set_option maxRecDepth 100000 in
noncomputable def ppln_L0_lc (x0 : List (List Ct)) (x1 : Int) : LoopCon Try.prog := loopCon Try.prog 1 ppln_L0_c [] (ppln_L0_S x0 x1) (ppln_L0_T x0 x1) 0 (ppln_L0_step x0 x1) (ppln_L0_ok x0 x1) 1000 1 (ppln_L0_p x0 x1) rfl (ppln_L0_v x0 x1) rfl
noncomputable def ppln_O (v : Int) : Out := ⟨.sv (.one (.val false (.int .i64 v))), [], 9, []⟩
noncomputable def ppln_rd (out : Out) : Option (Int) := some (rI (rvC out.v 0 0))
noncomputable def ppln_res (x0 : List (List Ct)) (x1 : Int) : Option (Int) := bif (ppln_L0_p x0 x1) then some (ppln_L0_v x0 x1) else none
set_option maxRecDepth 100000 in
theorem ppln_tree {x0 : List (List Ct)} {x1 : Int} {v : Int} (h : ppln_res x0 x1 = some v) : CallOk Try.prog 135 [.sv (.one (.ext 0)), .sv (.one (.val false (.int .i64 x1)))] [(0, .grid [.int .u8] x0)] 1 (ppln_O v) :=
  eng_tree (C := (⟨consPack1, fun f id nx => bif Nat.beq f 135 then (bif Nat.beq id 0 then some (ppln_L0_lc x0 x1) else none) else none, fun f => false, noFacts, fun _ => 0⟩ : Cfg Try.prog)) noFacts_ok (n := 30) (f := 135) ppln_O ppln_rd rfl (by kernel_rfl) h
noncomputable def ppln_v (x0 : List (List Ct)) (x1 : Int) : Int := (ppln_L0_v x0 x1)
theorem ppln_spec (x0 : List (List Ct)) (x1 : Int) (h : (ppln_L0_p x0 x1) = true) : ppln_res x0 x1 = some (ppln_v x0 x1) := by
  simp only [ppln_res, ppln_v, h, cond_true]
noncomputable def ppln_m (args : List RV) (hp : Hp) : Option ((List (List Ct) × Int) × List Nat) := match args with
  | [.sv (.one (.ext i0)), .sv (.one (.val _ (.int .i64 x1)))] => (match gridAt hp i0 [.int .u8] with
    | some x0 => some ((x0, x1), [i0])
    | _ => none)
  | _ => none
noncomputable def ppln_con : Con Try.prog := conX Try.prog 135 ppln_m 1 (fun x => [.sv (.one (.ext 0)), .sv (.one (.val false (.int .i64 x.2)))]) (fun x => [(0, .grid [.int .u8] x.1)]) (fun x => some (ppln_L0_p x.1 x.2)) (fun x => ppln_O (ppln_v x.1 x.2))
  (by
    intro args hp x r h
    unfold ppln_m at h
    split at h
    · split at h
      · rename_i g0
        cases h
        refine ⟨rfl, fun nx => ⟨rfl, ?_, ?_⟩⟩
        · intro i hi
          simp only [List.mem_cons, List.not_mem_nil, or_false] at hi
          rcases hi with rfl
          · exact ⟨_, List.mem_of_getElem? (i := 0) rfl, .inl (by simp [RV.ids, SV.ids, CV.ids])⟩
        · intro id o0 ho
          have := hlook_mem ho
          simp only [List.mem_cons, Prod.mk.injEq, List.not_mem_nil, or_false] at this
          rcases this with ⟨rfl, rfl⟩
          · exact ⟨_, gridAt_spec g0, rfl⟩
      · cases h
    · cases h)
  (fun x h => ⟨rfl, rfl, ppln_tree (ppln_spec x.1 x.2 (h _ rfl))⟩)
noncomputable def consPack2 : List (Con Try.prog) := [ppln_con.freeze] ++ consPack1
end Go.Proofs.Ytcpbiijegbbafaa

/- Press. No condition. -/
set_option linter.unusedVariables false
set_option linter.unusedSimpArgs false
namespace Go.Proofs.Ytcpbiijegbbafaa
open Go.RowKit

noncomputable def pprs_L0_S (x0 : List (List Ct)) (v : Int × List (List Ct)) : St := ⟨[.o (.ext 0), .d, .o (.val true (Value.slice none 0 0)), .o (.ext 1), .o (.q v.1), .d, .d, .d, .d, .d, .d, .d, .d, .d, .d, .d, .d, .d, .d, .d, .d, .d, .d, .d, .d, .d, .d, .d, .d, .d, .d, .d, .d, .d, .d, .d, .d, .d, .d, .d, .d, .d, .d, .d, .d, .d, .d, .d, .d], [(0, .grid ([Sh.int IntKind.u8]) x0), (1, .row ([Sh.int IntKind.u8]) 5 v.2)], 2, []⟩
noncomputable def pprs_L0_T (x0 : List (List Ct)) (v : Int × List (List Ct)) : Ex × St := ((.exit 0), ⟨(pprs_L0_S x0 v).fr, (pprs_L0_S x0 v).hp, 3, []⟩)
noncomputable def pprs_L0_rd (ex : Ex) (s : St) : Option ((Int × List (List Ct)) ⊕ (Int × List (List Ct))) × List (Nat × Option Nat) := match ex with
  | .normal => (some (.inl (rI (frC s 4 0), rL s (frC s 3 0))), [rnOf 1 (frC s 3 0)])
  | .exit i => bif Nat.beq i 0 then (some (.inr (rI (frC s 4 0), rL s (frC s 3 0))), [(1, some 1)]) else (none, [])
  | _ => (none, [])
noncomputable def pprs_L0_step (x0 : List (List Ct)) : (Int × List (List Ct)) → Option ((Int × List (List Ct)) ⊕ (Int × List (List Ct))) := fun v => match v with
  | (vi0, vl0) => bif (decide (vi0 < (↑x0.length : Int))) then (bif (prun_L0_p x0 vi0 (129 : Int)) then bif (decide (prun_v x0 vi0 (129 : Int) ≥ (3 : Int))) then (bif (decide ((0 : Int) ≤ vi0 ∧ vi0 < (↑x0.length : Int))) then bif (decide (vl0.length + [[Ct.i (IntKind.u8.wrap (IntKind.i64.wrap (prun_v x0 vi0 (129 : Int) + (126 : Int))))], [Ct.i (rd x0 vi0.toNat 0).int]].length ≤ 9223372036854775807 ∧ (vl0.length + [[Ct.i (IntKind.u8.wrap (IntKind.i64.wrap (prun_v x0 vi0 (129 : Int) + (126 : Int))))], [Ct.i (rd x0 vi0.toNat 0).int]].length) * 1 ≤ 140737488355328)) then some (.inl (IntKind.i64.wrap (vi0 + prun_v x0 vi0 (129 : Int)), vl0 ++ [[Ct.i (IntKind.u8.wrap (IntKind.i64.wrap (prun_v x0 vi0 (129 : Int) + (126 : Int))))], [Ct.i (rd x0 vi0.toNat 0).int]])) else none else none) else bif (ppln_L0_p x0 vi0) then bif (decide (vl0.length + [[Ct.i (IntKind.u8.wrap (IntKind.i64.wrap (ppln_v x0 vi0 - (1 : Int))))]].length ≤ 9223372036854775807 ∧ (vl0.length + [[Ct.i (IntKind.u8.wrap (IntKind.i64.wrap (ppln_v x0 vi0 - (1 : Int))))]].length) * 1 ≤ 140737488355328)) then bif (decide ((0 : Int) ≤ vi0 ∧ vi0 ≤ IntKind.i64.wrap (vi0 + ppln_v x0 vi0) ∧ IntKind.i64.wrap (vi0 + ppln_v x0 vi0) ≤ (↑x0.length : Int))) then bif (decide ((vl0 ++ [[Ct.i (IntKind.u8.wrap (IntKind.i64.wrap (ppln_v x0 vi0 - (1 : Int))))]]).length + (partOf x0 vi0 (IntKind.i64.wrap (vi0 + ppln_v x0 vi0))).length ≤ 9223372036854775807 ∧ ((vl0 ++ [[Ct.i (IntKind.u8.wrap (IntKind.i64.wrap (ppln_v x0 vi0 - (1 : Int))))]]).length + (partOf x0 vi0 (IntKind.i64.wrap (vi0 + ppln_v x0 vi0))).length) * 1 ≤ 140737488355328)) then some (.inl (IntKind.i64.wrap (vi0 + ppln_v x0 vi0), vl0 ++ [[Ct.i (IntKind.u8.wrap (IntKind.i64.wrap (ppln_v x0 vi0 - (1 : Int))))]] ++ partOf x0 vi0 (IntKind.i64.wrap (vi0 + ppln_v x0 vi0)))) else none else none else none else none else none) else some (.inr (vi0, vl0))
noncomputable def pprs_L0_c : Code := loopC Try.prog 122 0
set_option maxRecDepth 100000 in
theorem pprs_L0_ok (x0 : List (List Ct)) : ∀ v, StepOk Try.prog 1 pprs_L0_c (pprs_L0_S x0) (pprs_L0_T x0) v (pprs_L0_step x0 v) := fun v => match v with | (vi0, vl0) => eng_step (C := (⟨consPack2, fun _ _ _ => none, fun f => false, noFacts, fun _ => 0⟩ : Cfg Try.prog)) noFacts_ok (n := 30) (f := 122) pprs_L0_rd (fun _ => rfl) (by kernel_rfl)
noncomputable def pprs_L0_p (x0 : List (List Ct)) : Bool := (iter (pprs_L0_step x0) (x0.length + 1) (0, [])).isSome
noncomputable def pprs_L0_v (x0 : List (List Ct)) : Int × List (List Ct) := loopRes (pprs_L0_step x0) (x0.length + 1) (0, [])
set_option maxRecDepth 100000 in
noncomputable def pprs_L0_lc (x0 : List (List Ct)) : LoopCon Try.prog := loopCon Try.prog 1 pprs_L0_c [(1, none)] (pprs_L0_S x0) (pprs_L0_T x0) 0 (pprs_L0_step x0) (pprs_L0_ok x0) (x0.length + 1) (0, []) (pprs_L0_p x0) rfl (pprs_L0_v x0) rfl
noncomputable def pprs_O (v : List (List Ct)) : Out := ⟨.sv (.one (.ext 1)), [(1, .row ([Sh.int IntKind.u8]) 5 v)], 3, []⟩
noncomputable def pprs_rd (out : Out) : Option (List (List Ct)) := some (hpL' out.up 1)
noncomputable def pprs_res (x0 : List (List Ct)) : Option (List (List Ct)) := bif (pprs_L0_p x0) then some ((pprs_L0_v x0).snd) else none
set_option maxRecDepth 100000 in
theorem pprs_tree {x0 : List (List Ct)} {v : List (List Ct)} (h : pprs_res x0 = some v) : CallOk Try.prog 122 [.sv (.one (.ext 0))] [(0, .grid [.int .u8] x0)] 1 (pprs_O v) :=
  eng_tree (C := (⟨consPack2, fun f id nx => bif Nat.beq f 122 then (bif Nat.beq id 0 then some (pprs_L0_lc x0) else none) else none, fun f => false, noFacts, fun _ => 0⟩ : Cfg Try.prog)) noFacts_ok (n := 30) (f := 122) pprs_O pprs_rd rfl (by kernel_rfl) h
noncomputable def pprs_v (x0 : List (List Ct)) : List (List Ct) := ((pprs_L0_v x0).snd)
theorem pprs_spec (x0 : List (List Ct)) (h : (pprs_L0_p x0) = true) : pprs_res x0 = some (pprs_v x0) := by
  simp only [pprs_res, pprs_v, h, cond_true]
noncomputable def pprs_m (args : List RV) (hp : Hp) : Option ((List (List Ct)) × List Nat) := match args with
  | [.sv (.one (.ext i0))] => (match gridAt hp i0 [.int .u8] with
    | some x0 => some (x0, [i0])
    | _ => none)
  | _ => none
noncomputable def pprs_con : Con Try.prog := conX Try.prog 122 pprs_m 1 (fun x => [.sv (.one (.ext 0))]) (fun x => [(0, .grid [.int .u8] x)]) (fun x => some (pprs_L0_p x)) (fun x => pprs_O (pprs_v x))
  (by
    intro args hp x r h
    unfold pprs_m at h
    split at h
    · split at h
      · rename_i g0
        cases h
        refine ⟨rfl, fun nx => ⟨rfl, ?_, ?_⟩⟩
        · intro i hi
          simp only [List.mem_cons, List.not_mem_nil, or_false] at hi
          rcases hi with rfl
          · exact ⟨_, List.mem_of_getElem? (i := 0) rfl, .inl (by simp [RV.ids, SV.ids, CV.ids])⟩
        · intro id o0 ho
          have := hlook_mem ho
          simp only [List.mem_cons, Prod.mk.injEq, List.not_mem_nil, or_false] at this
          rcases this with ⟨rfl, rfl⟩
          · exact ⟨_, gridAt_spec g0, rfl⟩
      · cases h
    · cases h)
  (fun x h => ⟨rfl, rfl, pprs_tree (pprs_spec x (h _ rfl))⟩)
noncomputable def consPack3 : List (Con Try.prog) := [pprs_con.freezeR.freezeO] ++ consPack2
end Go.Proofs.Ytcpbiijegbbafaa

/- The document's press. No condition. -/
set_option linter.unusedVariables false
set_option linter.unusedSimpArgs false
namespace Go.Proofs.Ytcpbiijegbbafaa
open Go.RowKit

noncomputable def rprs_L2_S (x0 : List (List Ct)) (vi0 : Int) (vl0 : List (List Ct)) (v : Int × List (List Ct)) : St := ⟨[.o (.ext 0), .d, .o (.val true (Value.slice none 0 0)), .o (.ext 1), .o (.q v.1), .o (.q (palk_v x0 vi0)), .o (.ext 8), .o (.q vi0), .o (.ext 0), .o (.q (↑x0.length : Int)), .o (.val true (.bool true)), .o (.ext 0), .o (.q vi0), .o (.q (palk_v x0 vi0)), .o (.q (palk_v x0 vi0)), .o (.val true (.bool false)), .d, .d, .d, .d, .d, .d, .d, .d, .d, .d, .d, .d, .d, .d, .d, .d, .d, .d, .d, .d, .d, .d, .d, .d, .d, .d, .d, .d, .d, .d, .d, .d, .d, .d, .d, .d, .d, .d, .d, .d, .d, .d, .d, .d, .d, .d, .d, .d, .d, .d, .d, .d, .d, .d, .d, .d, .d, .d], [(0, .grid ([Sh.int IntKind.u8]) x0), (1, .row ([Sh.int IntKind.u8]) 5 vl0), (8, .row ([Sh.int IntKind.u8]) 5 v.2)], 9, []⟩
noncomputable def rprs_L2_T (x0 : List (List Ct)) (vi0 : Int) (vl0 : List (List Ct)) (v : Int × List (List Ct)) : Ex × St := ((.exit 2), ⟨(rprs_L2_S x0 vi0 vl0 v).fr, (rprs_L2_S x0 vi0 vl0 v).hp, 17, []⟩)
noncomputable def rprs_L2_rd (ex : Ex) (s : St) : Option ((Int × List (List Ct)) ⊕ (Int × List (List Ct))) × List (Nat × Option Nat) := match ex with
  | .normal => (some (.inl (rI (frC s 4 0), rL s (frC s 6 0))), [(1, some 1), rnOf 8 (frC s 6 0)])
  | .exit i => bif Nat.beq i 2 then (some (.inr (rI (frC s 4 0), rL s (frC s 6 0))), [(1, some 1), (8, some 8)]) else (none, [])
  | _ => (none, [])
noncomputable def rprs_L2_step (x0 : List (List Ct)) (vi0 : Int) (vl0 : List (List Ct)) : (Int × List (List Ct)) → Option ((Int × List (List Ct)) ⊕ (Int × List (List Ct))) := fun v => match v with
  | (wi0, wl0) => bif (decide (wi0 < (↑x0.length : Int))) then (bif (decide ((↑wl0.length : Int) < (128 : Int))) then (bif ((↑wl0.length : Int) == (0 : Int)) then (bif (decide ((0 : Int) ≤ wi0 ∧ wi0 < (↑x0.length : Int))) then bif (decide (wl0.length + [[Ct.i (rd x0 wi0.toNat 0).int]].length ≤ 9223372036854775807 ∧ (wl0.length + [[Ct.i (rd x0 wi0.toNat 0).int]].length) * 1 ≤ 140737488355328)) then some (.inl (IntKind.i64.wrap (wi0 + (1 : Int)), wl0 ++ [[Ct.i (rd x0 wi0.toNat 0).int]])) else none else none) else bif (palk_L0_p x0 wi0) then bif (decide (palk_v x0 wi0 < (3 : Int))) then (bif (decide ((0 : Int) ≤ wi0 ∧ wi0 < (↑x0.length : Int))) then bif (decide (wl0.length + [[Ct.i (rd x0 wi0.toNat 0).int]].length ≤ 9223372036854775807 ∧ (wl0.length + [[Ct.i (rd x0 wi0.toNat 0).int]].length) * 1 ≤ 140737488355328)) then some (.inl (IntKind.i64.wrap (wi0 + (1 : Int)), wl0 ++ [[Ct.i (rd x0 wi0.toNat 0).int]])) else none else none) else some (.inr (wi0, wl0)) else none) else some (.inr (wi0, wl0))) else some (.inr (wi0, wl0))
noncomputable def rprs_L2_c : Code := loopC Try.prog 85 2
set_option maxRecDepth 100000 in
theorem rprs_L2_ok (x0 : List (List Ct)) (vi0 : Int) (vl0 : List (List Ct)) : ∀ v, StepOk Try.prog 1 rprs_L2_c (rprs_L2_S x0 vi0 vl0) (rprs_L2_T x0 vi0 vl0) v (rprs_L2_step x0 vi0 vl0 v) := fun v => match v with | (wi0, wl0) => eng_step (C := (⟨consPack1, fun _ _ _ => none, fun f => false, noFacts, fun _ => 0⟩ : Cfg Try.prog)) noFacts_ok (n := 30) (f := 85) rprs_L2_rd (fun _ => rfl) (by kernel_rfl)
noncomputable def rprs_L2_p (x0 : List (List Ct)) (vi0 : Int) (vl0 : List (List Ct)) : Bool := (iter (rprs_L2_step x0 vi0 vl0) 1000 (vi0, [])).isSome
noncomputable def rprs_L2_v (x0 : List (List Ct)) (vi0 : Int) (vl0 : List (List Ct)) : Int × List (List Ct) := loopRes (rprs_L2_step x0 vi0 vl0) 1000 (vi0, [])
set_option maxRecDepth 100000 in
noncomputable def rprs_L2_lc (x0 : List (List Ct)) (vi0 : Int) (vl0 : List (List Ct)) : LoopCon Try.prog := loopCon Try.prog 1 rprs_L2_c [(1, some 1), (8, none)] (rprs_L2_S x0 vi0 vl0) (rprs_L2_T x0 vi0 vl0) 2 (rprs_L2_step x0 vi0 vl0) (rprs_L2_ok x0 vi0 vl0) 1000 (vi0, []) (rprs_L2_p x0 vi0 vl0) rfl (rprs_L2_v x0 vi0 vl0) rfl
noncomputable def rprs_L0_S (x0 : List (List Ct)) (v : Int × List (List Ct)) : St := ⟨[.o (.ext 0), .d, .o (.val true (Value.slice none 0 0)), .o (.ext 1), .o (.q v.1), .d, .d, .d, .d, .d, .d, .d, .d, .d, .d, .d, .d, .d, .d, .d, .d, .d, .d, .d, .d, .d, .d, .d, .d, .d, .d, .d, .d, .d, .d, .d, .d, .d, .d, .d, .d, .d, .d, .d, .d, .d, .d, .d, .d, .d, .d, .d, .d, .d, .d, .d, .d, .d, .d, .d, .d, .d, .d, .d, .d, .d, .d, .d, .d, .d, .d, .d, .d, .d], [(0, .grid ([Sh.int IntKind.u8]) x0), (1, .row ([Sh.int IntKind.u8]) 5 v.2)], 2, []⟩
noncomputable def rprs_L0_T (x0 : List (List Ct)) (v : Int × List (List Ct)) : Ex × St := ((.exit 0), ⟨(rprs_L0_S x0 v).fr, (rprs_L0_S x0 v).hp, 3, []⟩)
noncomputable def rprs_L0_rd (ex : Ex) (s : St) : Option ((Int × List (List Ct)) ⊕ (Int × List (List Ct))) × List (Nat × Option Nat) := match ex with
  | .normal => (some (.inl (rI (frC s 4 0), rL s (frC s 3 0))), [rnOf 1 (frC s 3 0)])
  | .exit i => bif Nat.beq i 0 then (some (.inr (rI (frC s 4 0), rL s (frC s 3 0))), [(1, some 1)]) else (none, [])
  | _ => (none, [])
noncomputable def rprs_L0_step (x0 : List (List Ct)) : (Int × List (List Ct)) → Option ((Int × List (List Ct)) ⊕ (Int × List (List Ct))) := fun v => match v with
  | (vi0, vl0) => bif (decide (vi0 < (↑x0.length : Int))) then (bif (palk_L0_p x0 vi0) then bif (decide (palk_v x0 vi0 ≥ (3 : Int))) then (bif (decide (palk_v x0 vi0 > (129 : Int))) then (bif (decide (vl0.length + [[Ct.i (255 : Int)]].length ≤ 9223372036854775807 ∧ (vl0.length + [[Ct.i (255 : Int)]].length) * 1 ≤ 140737488355328)) then bif (decide ((0 : Int) ≤ vi0 ∧ vi0 < (↑x0.length : Int))) then bif (decide ((vl0 ++ [[Ct.i (255 : Int)]]).length + [[Ct.i (rd x0 vi0.toNat 0).int]].length ≤ 9223372036854775807 ∧ ((vl0 ++ [[Ct.i (255 : Int)]]).length + [[Ct.i (rd x0 vi0.toNat 0).int]].length) * 1 ≤ 140737488355328)) then some (.inl (IntKind.i64.wrap (vi0 + (129 : Int)), vl0 ++ [[Ct.i (255 : Int)]] ++ [[Ct.i (rd x0 vi0.toNat 0).int]])) else none else none else none) else bif (decide (vl0.length + [[Ct.i (IntKind.u8.wrap (IntKind.i64.wrap ((126 : Int) + palk_v x0 vi0)))]].length ≤ 9223372036854775807 ∧ (vl0.length + [[Ct.i (IntKind.u8.wrap (IntKind.i64.wrap ((126 : Int) + palk_v x0 vi0)))]].length) * 1 ≤ 140737488355328)) then bif (decide ((0 : Int) ≤ vi0 ∧ vi0 < (↑x0.length : Int))) then bif (decide ((vl0 ++ [[Ct.i (IntKind.u8.wrap (IntKind.i64.wrap ((126 : Int) + palk_v x0 vi0)))]]).length + [[Ct.i (rd x0 vi0.toNat 0).int]].length ≤ 9223372036854775807 ∧ ((vl0 ++ [[Ct.i (IntKind.u8.wrap (IntKind.i64.wrap ((126 : Int) + palk_v x0 vi0)))]]).length + [[Ct.i (rd x0 vi0.toNat 0).int]].length) * 1 ≤ 140737488355328)) then some (.inl (IntKind.i64.wrap (vi0 + palk_v x0 vi0), vl0 ++ [[Ct.i (IntKind.u8.wrap (IntKind.i64.wrap ((126 : Int) + palk_v x0 vi0)))]] ++ [[Ct.i (rd x0 vi0.toNat 0).int]])) else none else none else none) else bif (rprs_L2_p x0 vi0 vl0) then bif (decide (vl0.length + [[Ct.i (IntKind.u8.wrap (IntKind.i64.wrap ((↑(rprs_L2_v x0 vi0 vl0).snd.length : Int) - (1 : Int))))]].length ≤ 9223372036854775807 ∧ (vl0.length + [[Ct.i (IntKind.u8.wrap (IntKind.i64.wrap ((↑(rprs_L2_v x0 vi0 vl0).snd.length : Int) - (1 : Int))))]].length) * 1 ≤ 140737488355328)) then bif (decide ((vl0 ++ [[Ct.i (IntKind.u8.wrap (IntKind.i64.wrap ((↑(rprs_L2_v x0 vi0 vl0).snd.length : Int) - (1 : Int))))]]).length + (rprs_L2_v x0 vi0 vl0).snd.length ≤ 9223372036854775807 ∧ ((vl0 ++ [[Ct.i (IntKind.u8.wrap (IntKind.i64.wrap ((↑(rprs_L2_v x0 vi0 vl0).snd.length : Int) - (1 : Int))))]]).length + (rprs_L2_v x0 vi0 vl0).snd.length) * 1 ≤ 140737488355328)) then some (.inl ((rprs_L2_v x0 vi0 vl0).fst, vl0 ++ [[Ct.i (IntKind.u8.wrap (IntKind.i64.wrap ((↑(rprs_L2_v x0 vi0 vl0).snd.length : Int) - (1 : Int))))]] ++ (rprs_L2_v x0 vi0 vl0).snd)) else none else none else none else none) else some (.inr (vi0, vl0))
noncomputable def rprs_L0_c : Code := loopC Try.prog 85 0
set_option maxRecDepth 100000 in
theorem rprs_L0_ok (x0 : List (List Ct)) : ∀ v, StepOk Try.prog 1 rprs_L0_c (rprs_L0_S x0) (rprs_L0_T x0) v (rprs_L0_step x0 v) := fun v => match v with | (vi0, vl0) => eng_step (C := (⟨consPack1, fun f id nx => bif Nat.beq f 85 then (bif Nat.beq id 2 then some (rprs_L2_lc x0 vi0 vl0) else none) else none, fun f => false, noFacts, fun _ => 0⟩ : Cfg Try.prog)) noFacts_ok (n := 30) (f := 85) rprs_L0_rd (fun _ => rfl) (by kernel_rfl)
noncomputable def rprs_L0_p (x0 : List (List Ct)) : Bool := (iter (rprs_L0_step x0) (x0.length + 1) (0, [])).isSome
noncomputable def rprs_L0_v (x0 : List (List Ct)) : Int × List (List Ct) := loopRes (rprs_L0_step x0) (x0.length + 1) (0, [])
set_option maxRecDepth 100000 in
noncomputable def rprs_L0_lc (x0 : List (List Ct)) : LoopCon Try.prog := loopCon Try.prog 1 rprs_L0_c [(1, none)] (rprs_L0_S x0) (rprs_L0_T x0) 0 (rprs_L0_step x0) (rprs_L0_ok x0) (x0.length + 1) (0, []) (rprs_L0_p x0) rfl (rprs_L0_v x0) rfl
noncomputable def rprs_O (v : List (List Ct)) : Out := ⟨.sv (.one (.ext 1)), [(1, .row ([Sh.int IntKind.u8]) 5 v)], 3, []⟩
noncomputable def rprs_rd (out : Out) : Option (List (List Ct)) := some (hpL' out.up 1)
noncomputable def rprs_res (x0 : List (List Ct)) : Option (List (List Ct)) := bif (rprs_L0_p x0) then some ((rprs_L0_v x0).snd) else none
set_option maxRecDepth 100000 in
theorem rprs_tree {x0 : List (List Ct)} {v : List (List Ct)} (h : rprs_res x0 = some v) : CallOk Try.prog 85 [.sv (.one (.ext 0))] [(0, .grid [.int .u8] x0)] 1 (rprs_O v) :=
  eng_tree (C := (⟨consPack1, fun f id nx => bif Nat.beq f 85 then (bif Nat.beq id 0 then some (rprs_L0_lc x0) else none) else none, fun f => false, noFacts, fun _ => 0⟩ : Cfg Try.prog)) noFacts_ok (n := 30) (f := 85) rprs_O rprs_rd rfl (by kernel_rfl) h
noncomputable def rprs_v (x0 : List (List Ct)) : List (List Ct) := ((rprs_L0_v x0).snd)
theorem rprs_spec (x0 : List (List Ct)) (h : (rprs_L0_p x0) = true) : rprs_res x0 = some (rprs_v x0) := by
  simp only [rprs_res, rprs_v, h, cond_true]
noncomputable def rprs_m (args : List RV) (hp : Hp) : Option ((List (List Ct)) × List Nat) := match args with
  | [.sv (.one (.ext i0))] => (match gridAt hp i0 [.int .u8] with
    | some x0 => some (x0, [i0])
    | _ => none)
  | _ => none
noncomputable def rprs_con : Con Try.prog := conX Try.prog 85 rprs_m 1 (fun x => [.sv (.one (.ext 0))]) (fun x => [(0, .grid [.int .u8] x)]) (fun x => some (rprs_L0_p x)) (fun x => rprs_O (rprs_v x))
  (by
    intro args hp x r h
    unfold rprs_m at h
    split at h
    · split at h
      · rename_i g0
        cases h
        refine ⟨rfl, fun nx => ⟨rfl, ?_, ?_⟩⟩
        · intro i hi
          simp only [List.mem_cons, List.not_mem_nil, or_false] at hi
          rcases hi with rfl
          · exact ⟨_, List.mem_of_getElem? (i := 0) rfl, .inl (by simp [RV.ids, SV.ids, CV.ids])⟩
        · intro id o0 ho
          have := hlook_mem ho
          simp only [List.mem_cons, Prod.mk.injEq, List.not_mem_nil, or_false] at this
          rcases this with ⟨rfl, rfl⟩
          · exact ⟨_, gridAt_spec g0, rfl⟩
      · cases h
    · cases h)
  (fun x h => ⟨rfl, rfl, rprs_tree (rprs_spec x (h _ rfl))⟩)
noncomputable def consPack4 : List (Con Try.prog) := [rprs_con.freezeR.freezeO] ++ consPack3
end Go.Proofs.Ytcpbiijegbbafaa

/- How many pieces. No condition. -/
set_option linter.unusedVariables false
set_option linter.unusedSimpArgs false
namespace Go.Proofs.Ytcpbiijegbbafaa
open Go.RowKit

noncomputable def consPack5 : List (Con Try.prog) := [] ++ consPack4
end Go.Proofs.Ytcpbiijegbbafaa

/- Spread. No condition. -/
set_option linter.unusedVariables false
set_option linter.unusedSimpArgs false
namespace Go.Proofs.Ytcpbiijegbbafaa
open Go.RowKit

noncomputable def psp_L3_S (x0 : List (List Ct)) (x1 : Int) (vl0 : List (List Ct)) (vl1 : List (List Ct)) (v : Int × List (List Ct)) : St := ⟨[.o (.ext 2), .o (.q x1), .d, .d, .o (.val true (Value.slice none 0 0)), .o (.val true (.int .i64 0)), .o (.ext 1), .o (.q (IntKind.i64.wrap (rd vl1 (Int.toNat (0 : Int)) 0).int)), .o (.q (bif decide (IntKind.i64.wrap (rd vl1 (Int.toNat (0 : Int)) 0).int ≥ (128 : Int)) then IntKind.i64.wrap (IntKind.i64.wrap (rd vl1 (Int.toNat (0 : Int)) 0).int - (126 : Int)) else IntKind.i64.wrap (IntKind.i64.wrap (rd vl1 (Int.toNat (0 : Int)) 0).int + (1 : Int)))), .o (.val false (.bool (bif decide (IntKind.i64.wrap (rd vl1 (Int.toNat (0 : Int)) 0).int ≥ (128 : Int)) then true else false))), .o (.q (bif bif decide (IntKind.i64.wrap (rd vl1 (Int.toNat (0 : Int)) 0).int ≥ (128 : Int)) then true else false then (1 : Int) else bif decide (IntKind.i64.wrap (rd vl1 (Int.toNat (0 : Int)) 0).int ≥ (128 : Int)) then IntKind.i64.wrap (IntKind.i64.wrap (rd vl1 (Int.toNat (0 : Int)) 0).int - (126 : Int)) else IntKind.i64.wrap (IntKind.i64.wrap (rd vl1 (Int.toNat (0 : Int)) 0).int + (1 : Int)))), .d, .d, .o (.ext 2), .o (.q (↑vl1.length : Int)), .o (.val true (.bool true)), .o (.ext 2), .o (.eptr 4 0), .o (.val false (.int .u8 ((rd vl1 (Int.toNat (0 : Int)) 0).int))), .o (.q (IntKind.i64.wrap (rd vl1 (Int.toNat (0 : Int)) 0).int)), .o (.q (IntKind.i64.wrap (rd vl1 (Int.toNat (0 : Int)) 0).int)), .o (.q (IntKind.i64.wrap (IntKind.i64.wrap (rd vl1 (Int.toNat (0 : Int)) 0).int + (1 : Int)))), .o (.q (IntKind.i64.wrap (rd vl1 (Int.toNat (0 : Int)) 0).int)), .o (.val false (.bool (bif decide (IntKind.i64.wrap (rd vl1 (Int.toNat (0 : Int)) 0).int ≥ (128 : Int)) then true else false))), .d, .d, .o (.q (bif decide (IntKind.i64.wrap (rd vl1 (Int.toNat (0 : Int)) 0).int ≥ (128 : Int)) then IntKind.i64.wrap (IntKind.i64.wrap (rd vl1 (Int.toNat (0 : Int)) 0).int - (126 : Int)) else IntKind.i64.wrap (IntKind.i64.wrap (rd vl1 (Int.toNat (0 : Int)) 0).int + (1 : Int)))), .o (.val false (.bool (bif bif decide (IntKind.i64.wrap (rd vl1 (Int.toNat (0 : Int)) 0).int ≥ (128 : Int)) then true else false then true else false))), .o (.val true (.bool false)), .o (.ext 2), .o (.q (↑vl1.length : Int)), .o (.q (IntKind.i64.wrap ((↑vl1.length : Int) - (1 : Int)))), .o (.q (bif bif decide (IntKind.i64.wrap (rd vl1 (Int.toNat (0 : Int)) 0).int ≥ (128 : Int)) then true else false then (1 : Int) else bif decide (IntKind.i64.wrap (rd vl1 (Int.toNat (0 : Int)) 0).int ≥ (128 : Int)) then IntKind.i64.wrap (IntKind.i64.wrap (rd vl1 (Int.toNat (0 : Int)) 0).int - (126 : Int)) else IntKind.i64.wrap (IntKind.i64.wrap (rd vl1 (Int.toNat (0 : Int)) 0).int + (1 : Int)))), .o (.val false (.bool (decide (IntKind.i64.wrap ((↑vl1.length : Int) - (1 : Int)) < bif bif decide (IntKind.i64.wrap (rd vl1 (Int.toNat (0 : Int)) 0).int ≥ (128 : Int)) then true else false then (1 : Int) else bif decide (IntKind.i64.wrap (rd vl1 (Int.toNat (0 : Int)) 0).int ≥ (128 : Int)) then IntKind.i64.wrap (IntKind.i64.wrap (rd vl1 (Int.toNat (0 : Int)) 0).int - (126 : Int)) else IntKind.i64.wrap (IntKind.i64.wrap (rd vl1 (Int.toNat (0 : Int)) 0).int + (1 : Int)))))), .o (.val true (.bool false)), .o (.q (bif decide (IntKind.i64.wrap (rd vl1 (Int.toNat (0 : Int)) 0).int ≥ (128 : Int)) then IntKind.i64.wrap (IntKind.i64.wrap (rd vl1 (Int.toNat (0 : Int)) 0).int - (126 : Int)) else IntKind.i64.wrap (IntKind.i64.wrap (rd vl1 (Int.toNat (0 : Int)) 0).int + (1 : Int)))), .o (.q x1), .d, .o (.q (↑vl0.length : Int)), .o (.q (IntKind.i64.wrap (x1 - (↑vl0.length : Int)))), .o (.val false (.bool (decide ((bif decide (IntKind.i64.wrap (rd vl1 (Int.toNat (0 : Int)) 0).int ≥ (128 : Int)) then IntKind.i64.wrap (IntKind.i64.wrap (rd vl1 (Int.toNat (0 : Int)) 0).int - (126 : Int)) else IntKind.i64.wrap (IntKind.i64.wrap (rd vl1 (Int.toNat (0 : Int)) 0).int + (1 : Int))) > IntKind.i64.wrap (x1 - (↑vl0.length : Int)))))), .o (.q (bif decide (IntKind.i64.wrap (rd vl1 (Int.toNat (0 : Int)) 0).int ≥ (128 : Int)) then IntKind.i64.wrap (IntKind.i64.wrap (rd vl1 (Int.toNat (0 : Int)) 0).int - (126 : Int)) else IntKind.i64.wrap (IntKind.i64.wrap (rd vl1 (Int.toNat (0 : Int)) 0).int + (1 : Int)))), .o (.q v.1), .d, .d, .d, .d, .d, .d, .d, .d, .d, .d, .d, .d, .d, .d, .d, .d, .d], [(0, .grid ([Sh.int IntKind.u8]) x0), (1, .row ([Sh.int IntKind.u8]) 5 v.2), (2, .grid ([Sh.int IntKind.u8]) vl1), (4, .elem 2 0 1)], 9, []⟩
noncomputable def psp_L3_T (x0 : List (List Ct)) (x1 : Int) (vl0 : List (List Ct)) (vl1 : List (List Ct)) (v : Int × List (List Ct)) : Ex × St := ((.exit 3), ⟨(psp_L3_S x0 x1 vl0 vl1 v).fr, (psp_L3_S x0 x1 vl0 vl1 v).hp, 10, []⟩)
noncomputable def psp_L3_rd (ex : Ex) (s : St) : Option ((Int × List (List Ct)) ⊕ (Int × List (List Ct))) × List (Nat × Option Nat) := match ex with
  | .normal => (some (.inl (rI (frC s 42 0), rL s (frC s 6 0))), [rnOf 1 (frC s 6 0), (2, some 2), (4, some 4)])
  | .exit i => bif Nat.beq i 3 then (some (.inr (rI (frC s 42 0), rL s (frC s 6 0))), [(1, some 1), (2, some 2), (4, some 4)]) else (none, [])
  | _ => (none, [])
noncomputable def psp_L3_step (x0 : List (List Ct)) (x1 : Int) (vl0 : List (List Ct)) (vl1 : List (List Ct)) : (Int × List (List Ct)) → Option ((Int × List (List Ct)) ⊕ (Int × List (List Ct))) := fun v => match v with
  | (wi0, wl0) => bif (decide (wi0 < bif decide (IntKind.i64.wrap (rd vl1 (Int.toNat (0 : Int)) 0).int ≥ (128 : Int)) then IntKind.i64.wrap (IntKind.i64.wrap (rd vl1 (Int.toNat (0 : Int)) 0).int - (126 : Int)) else IntKind.i64.wrap (IntKind.i64.wrap (rd vl1 (Int.toNat (0 : Int)) 0).int + (1 : Int)))) then (bif (decide ((0 : Int) ≤ IntKind.i64.wrap ((1 : Int) + bif bif decide (IntKind.i64.wrap (rd vl1 (Int.toNat (0 : Int)) 0).int ≥ (128 : Int)) then true else false then (0 : Int) else wi0) ∧ IntKind.i64.wrap ((1 : Int) + bif bif decide (IntKind.i64.wrap (rd vl1 (Int.toNat (0 : Int)) 0).int ≥ (128 : Int)) then true else false then (0 : Int) else wi0) < (↑vl1.length : Int))) then bif (decide (wl0.length + [[Ct.i (rd vl1 (IntKind.i64.wrap ((1 : Int) + bif bif decide (IntKind.i64.wrap (rd vl1 (Int.toNat (0 : Int)) 0).int ≥ (128 : Int)) then true else false then (0 : Int) else wi0)).toNat 0).int]].length ≤ 9223372036854775807 ∧ (wl0.length + [[Ct.i (rd vl1 (IntKind.i64.wrap ((1 : Int) + bif bif decide (IntKind.i64.wrap (rd vl1 (Int.toNat (0 : Int)) 0).int ≥ (128 : Int)) then true else false then (0 : Int) else wi0)).toNat 0).int]].length) * 1 ≤ 140737488355328)) then some (.inl (IntKind.i64.wrap (wi0 + (1 : Int)), wl0 ++ [[Ct.i (rd vl1 (IntKind.i64.wrap ((1 : Int) + bif bif decide (IntKind.i64.wrap (rd vl1 (Int.toNat (0 : Int)) 0).int ≥ (128 : Int)) then true else false then (0 : Int) else wi0)).toNat 0).int]])) else none else none) else some (.inr (wi0, wl0))
noncomputable def psp_L3_c : Code := loopC Try.prog 129 3
set_option maxRecDepth 100000 in
theorem psp_L3_ok (x0 : List (List Ct)) (x1 : Int) (vl0 : List (List Ct)) (vl1 : List (List Ct)) : ∀ v, StepOk Try.prog 1 psp_L3_c (psp_L3_S x0 x1 vl0 vl1) (psp_L3_T x0 x1 vl0 vl1) v (psp_L3_step x0 x1 vl0 vl1 v) := fun v => match v with | (wi0, wl0) => eng_step (C := (⟨consPack, fun _ _ _ => none, fun f => ⟨false, true⟩, noFacts, fun _ => 4⟩ : Cfg Try.prog)) noFacts_ok (n := 30) (f := 129) psp_L3_rd (fun _ => rfl) (by kernel_rfl)
noncomputable def psp_L3_p (x0 : List (List Ct)) (x1 : Int) (vl0 : List (List Ct)) (vl1 : List (List Ct)) : Bool := (iter (psp_L3_step x0 x1 vl0 vl1) 1000 (0, vl0)).isSome
noncomputable def psp_L3_v (x0 : List (List Ct)) (x1 : Int) (vl0 : List (List Ct)) (vl1 : List (List Ct)) : Int × List (List Ct) := loopRes (psp_L3_step x0 x1 vl0 vl1) 1000 (0, vl0)
set_option maxRecDepth 100000 in
noncomputable def psp_L3_lc (x0 : List (List Ct)) (x1 : Int) (vl0 : List (List Ct)) (vl1 : List (List Ct)) : LoopCon Try.prog := loopCon Try.prog 1 psp_L3_c [(1, some 1), (2, some 2), (4, some 4)] (psp_L3_S x0 x1 vl0 vl1) (psp_L3_T x0 x1 vl0 vl1) 3 (psp_L3_step x0 x1 vl0 vl1) (psp_L3_ok x0 x1 vl0 vl1) 1000 (0, vl0) (psp_L3_p x0 x1 vl0 vl1) rfl (psp_L3_v x0 x1 vl0 vl1) rfl
noncomputable def psp_L0_S (x0 : List (List Ct)) (x1 : Int) (v : List (List Ct) × List (List Ct)) : St := ⟨[.o (.ext 2), .o (.q x1), .d, .d, .o (.val true (Value.slice none 0 0)), .o (.val true (.int .i64 0)), .o (.ext 1), .d, .d, .d, .d, .d, .d, .d, .d, .d, .d, .d, .d, .d, .d, .d, .d, .d, .d, .d, .d, .d, .d, .d, .d, .d, .d, .d, .d, .d, .d, .d, .d, .d, .d, .d, .d, .d, .d, .d, .d, .d, .d, .d, .d, .d, .d, .d, .d, .d, .d, .d, .d, .d], [(0, .grid ([Sh.int IntKind.u8]) x0), (1, .row ([Sh.int IntKind.u8]) 5 v.1), (2, .grid ([Sh.int IntKind.u8]) v.2)], 3, []⟩
noncomputable def psp_L0_T (x0 : List (List Ct)) (x1 : Int) : (List (List Ct) × List (List Ct)) ⊕ (Int) → Ex × St
  | .inl v => ((.exit 0), ⟨[.o (.ext 2), .o (.q x1), .d, .d, .o (.val true (Value.slice none 0 0)), .o (.val true (.int .i64 0)), .o (.ext 1), .d, .d, .d, .d, .d, .d, .d, .d, .d, .d, .d, .d, .d, .d, .d, .d, .d, .d, .d, .d, .d, .d, .d, .d, .d, .d, .d, .d, .d, .d, .d, .d, .d, .d, .d, .d, .d, .d, .d, .d, .d, .d, .d, .d, .d, .d, .d, .d, .d, .d, .d, .d, .d], [(0, .grid ([Sh.int IntKind.u8]) x0), (1, .row ([Sh.int IntKind.u8]) 5 v.1), (2, .grid ([Sh.int IntKind.u8]) v.2)], 4, []⟩)
  | .inr v => (.ret, ⟨[.dead, .dead, .dead, .dead, .sv (.one (.val true (Value.slice none 0 0))), .sv (.one (.val false (.int .i64 v))), .dead, .dead, .dead, .dead, .dead, .dead, .dead, .dead, .dead, .dead, .dead, .dead, .dead, .dead, .dead, .dead, .dead, .dead, .dead, .dead, .dead, .dead, .dead, .dead, .dead, .dead, .dead, .dead, .dead, .dead, .dead, .dead, .dead, .dead, .dead, .dead, .dead, .dead, .dead, .dead, .dead, .dead, .dead, .dead, .dead, .dead, .dead, .dead, .dead, .dead, .dead, .dead, .dead, .dead], [(0, .grid ([Sh.int IntKind.u8]) x0)], 9, []⟩)
noncomputable def psp_L0_rd (ex : Ex) (s : St) : Option ((List (List Ct) × List (List Ct)) ⊕ ((List (List Ct) × List (List Ct)) ⊕ (Int))) × List (Nat × Option Nat) := match ex with
  | .normal => (some (.inl (rL s (frC s 6 0), rL s (frC s 0 0))), [(1, some 1), rnOf 2 (frC s 0 0)])
  | .exit i => bif Nat.beq i 0 then (some (.inr (.inl (rL s (frC s 6 0), rL s (frC s 0 0)))), [(1, some 1), (2, some 2)]) else (none, [])
  | .ret => (some (.inr (.inr (rI (frC s 5 0)))), [])
noncomputable def psp_L0_step (x0 : List (List Ct)) (x1 : Int) : (List (List Ct) × List (List Ct)) → Option ((List (List Ct) × List (List Ct)) ⊕ ((List (List Ct) × List (List Ct)) ⊕ (Int))) := fun v => match v with
  | (vl0, vl1) => bif (decide ((↑vl1.length : Int) > (0 : Int))) then (bif (decide ((0 : Int) ≤ (0 : Int) ∧ (0 : Int) < (↑vl1.length : Int))) then bif (decide (IntKind.i64.wrap ((↑vl1.length : Int) - (1 : Int)) < bif bif decide (IntKind.i64.wrap (rd vl1 (Int.toNat (0 : Int)) 0).int ≥ (128 : Int)) then true else false then (1 : Int) else bif decide (IntKind.i64.wrap (rd vl1 (Int.toNat (0 : Int)) 0).int ≥ (128 : Int)) then IntKind.i64.wrap (IntKind.i64.wrap (rd vl1 (Int.toNat (0 : Int)) 0).int - (126 : Int)) else IntKind.i64.wrap (IntKind.i64.wrap (rd vl1 (Int.toNat (0 : Int)) 0).int + (1 : Int)))) then (some (.inr (.inr 9))) else bif (decide ((bif decide (IntKind.i64.wrap (rd vl1 (Int.toNat (0 : Int)) 0).int ≥ (128 : Int)) then IntKind.i64.wrap (IntKind.i64.wrap (rd vl1 (Int.toNat (0 : Int)) 0).int - (126 : Int)) else IntKind.i64.wrap (IntKind.i64.wrap (rd vl1 (Int.toNat (0 : Int)) 0).int + (1 : Int))) > IntKind.i64.wrap (x1 - (↑vl0.length : Int)))) then (some (.inr (.inr 8))) else bif (psp_L3_p x0 x1 vl0 vl1) then bif (decide ((0 : Int) ≤ IntKind.i64.wrap ((1 : Int) + bif bif decide (IntKind.i64.wrap (rd vl1 (Int.toNat (0 : Int)) 0).int ≥ (128 : Int)) then true else false then (1 : Int) else bif decide (IntKind.i64.wrap (rd vl1 (Int.toNat (0 : Int)) 0).int ≥ (128 : Int)) then IntKind.i64.wrap (IntKind.i64.wrap (rd vl1 (Int.toNat (0 : Int)) 0).int - (126 : Int)) else IntKind.i64.wrap (IntKind.i64.wrap (rd vl1 (Int.toNat (0 : Int)) 0).int + (1 : Int))) ∧ IntKind.i64.wrap ((1 : Int) + bif bif decide (IntKind.i64.wrap (rd vl1 (Int.toNat (0 : Int)) 0).int ≥ (128 : Int)) then true else false then (1 : Int) else bif decide (IntKind.i64.wrap (rd vl1 (Int.toNat (0 : Int)) 0).int ≥ (128 : Int)) then IntKind.i64.wrap (IntKind.i64.wrap (rd vl1 (Int.toNat (0 : Int)) 0).int - (126 : Int)) else IntKind.i64.wrap (IntKind.i64.wrap (rd vl1 (Int.toNat (0 : Int)) 0).int + (1 : Int))) ≤ (↑vl1.length : Int) ∧ (↑vl1.length : Int) ≤ (↑vl1.length : Int))) then some (.inl ((psp_L3_v x0 x1 vl0 vl1).snd, partOf vl1 (IntKind.i64.wrap ((1 : Int) + bif bif decide (IntKind.i64.wrap (rd vl1 (Int.toNat (0 : Int)) 0).int ≥ (128 : Int)) then true else false then (1 : Int) else bif decide (IntKind.i64.wrap (rd vl1 (Int.toNat (0 : Int)) 0).int ≥ (128 : Int)) then IntKind.i64.wrap (IntKind.i64.wrap (rd vl1 (Int.toNat (0 : Int)) 0).int - (126 : Int)) else IntKind.i64.wrap (IntKind.i64.wrap (rd vl1 (Int.toNat (0 : Int)) 0).int + (1 : Int)))) (↑vl1.length : Int))) else none else none else none) else some (.inr (.inl (vl0, vl1)))
noncomputable def psp_L0_c : Code := loopC Try.prog 129 0
set_option maxRecDepth 100000 in
theorem psp_L0_ok (x0 : List (List Ct)) (x1 : Int) : ∀ v, StepOk Try.prog 1 psp_L0_c (psp_L0_S x0 x1) (psp_L0_T x0 x1) v (psp_L0_step x0 x1 v) := fun v => match v with | (vl0, vl1) => eng_step (C := (⟨consPack, fun f id nx => bif Nat.beq f 129 then (bif Nat.beq id 3 then some (psp_L3_lc x0 x1 vl0 vl1) else none) else none, fun f => ⟨false, true⟩, noFacts, fun _ => 4⟩ : Cfg Try.prog)) noFacts_ok (n := 30) (f := 129) psp_L0_rd (fun r => by cases r <;> rfl) (by kernel_rfl)
noncomputable def psp_L0_p (x0 : List (List Ct)) (x1 : Int) : Bool := (iter (psp_L0_step x0 x1) (x0.length + 1) (([]), x0)).isSome
noncomputable def psp_L0_v (x0 : List (List Ct)) (x1 : Int) : (List (List Ct) × List (List Ct)) ⊕ (Int) := (iter (psp_L0_step x0 x1) (x0.length + 1) (([]), x0)).getD (.inl default)
set_option maxRecDepth 100000 in
noncomputable def psp_L0_lc (x0 : List (List Ct)) (x1 : Int) : LoopCon Try.prog := loopCon2 Try.prog 1 psp_L0_c [(1, some 1), (2, some 0)] (psp_L0_S x0 x1) (psp_L0_T x0 x1) 0 (psp_L0_step x0 x1) (psp_L0_ok x0 x1) (x0.length + 1) (([]), x0) (psp_L0_p x0 x1) rfl (psp_L0_v x0 x1) rfl
noncomputable def psp_O (v : Int × List (List Ct)) : Out := ⟨.tup [.one (.ext 1), .one (.val false (.int .i64 v.1))], [(1, .row ([Sh.int IntKind.u8]) 5 v.2)], 9, []⟩
noncomputable def psp_rd (out : Out) : Option (Int × List (List Ct)) := some (rI (rvC out.v 1 0), hpL' out.up 1)
noncomputable def psp_res (x0 : List (List Ct)) (x1 : Int) : Option (Int × List (List Ct)) := bif (psp_L0_p x0 x1) then bif (isL (psp_L0_v x0 x1)) then (some (0, (getL (psp_L0_v x0 x1)).fst)) else some (getR (psp_L0_v x0 x1), []) else none
set_option maxRecDepth 100000 in
theorem psp_tree {x0 : List (List Ct)} {x1 : Int} {v : Int × List (List Ct)} (h : psp_res x0 x1 = some v) : CallOk Try.prog 129 [.sv (.one (.ext 0)), .sv (.one (.val false (.int .i64 x1)))] [(0, .grid [.int .u8] x0)] 1 (psp_O v) :=
  eng_treeN (C := (⟨consPack, fun f id nx => bif Nat.beq f 129 then (bif Nat.beq id 0 then some (psp_L0_lc x0 x1) else none) else none, fun f => ⟨false, true⟩, noFacts, fun _ => 4⟩ : Cfg Try.prog)) noFacts_ok (n := 30) (f := 129) psp_O psp_rd rfl (by kernel_rfl) h
noncomputable def psp_v (x0 : List (List Ct)) (x1 : Int) : Int × List (List Ct) := (psp_res x0 x1).getD default
theorem psp_spec (x0 : List (List Ct)) (x1 : Int) (h : ((psp_res x0 x1).isSome) = true) : psp_res x0 x1 = some (psp_v x0 x1) := opt_get h
noncomputable def psp_m (args : List RV) (hp : Hp) : Option ((List (List Ct) × Int) × List Nat) := match args with
  | [.sv (.one (.ext i0)), .sv (.one (.val _ (.int .i64 x1)))] => (match gridAt hp i0 [.int .u8] with
    | some x0 => some ((x0, x1), [i0])
    | _ => none)
  | _ => none
noncomputable def psp_con : Con Try.prog := conX Try.prog 129 psp_m 1 (fun x => [.sv (.one (.ext 0)), .sv (.one (.val false (.int .i64 x.2)))]) (fun x => [(0, .grid [.int .u8] x.1)]) (fun x => some ((psp_res x.1 x.2).isSome)) (fun x => psp_O (psp_v x.1 x.2))
  (by
    intro args hp x r h
    unfold psp_m at h
    split at h
    · split at h
      · rename_i g0
        cases h
        refine ⟨rfl, fun nx => ⟨rfl, ?_, ?_⟩⟩
        · intro i hi
          simp only [List.mem_cons, List.not_mem_nil, or_false] at hi
          rcases hi with rfl
          · exact ⟨_, List.mem_of_getElem? (i := 0) rfl, .inl (by simp [RV.ids, SV.ids, CV.ids])⟩
        · intro id o0 ho
          have := hlook_mem ho
          simp only [List.mem_cons, Prod.mk.injEq, List.not_mem_nil, or_false] at this
          rcases this with ⟨rfl, rfl⟩
          · exact ⟨_, gridAt_spec g0, rfl⟩
      · cases h
    · cases h)
  (fun x h => ⟨rfl, rfl, psp_tree (psp_spec x.1 x.2 (h _ rfl))⟩)
noncomputable def consPack6 : List (Con Try.prog) := [psp_con.freezeR.freezeO] ++ consPack5
end Go.Proofs.Ytcpbiijegbbafaa

/- The document's spread. No condition. -/
set_option linter.unusedVariables false
set_option linter.unusedSimpArgs false
namespace Go.Proofs.Ytcpbiijegbbafaa
open Go.RowKit

noncomputable def rsp_L2_S (x0 : List (List Ct)) (x1 : Int) (vi0 : Int) (vl0 : List (List Ct)) (v : Int × List (List Ct)) : St := ⟨[.o (.ext 0), .o (.q x1), .d, .d, .o (.val true (Value.slice none 0 0)), .o (.val true (.int .i64 0)), .o (.ext 1), .o (.q vi0), .o (.q (IntKind.i64.wrap (rd x0 vi0.toNat 0).int)), .o (.ext 6), .o (.q v.1), .o (.q vi0), .o (.ext 0), .o (.q (↑x0.length : Int)), .o (.val true (.bool true)), .o (.ext 0), .o (.q vi0), .o (.eptr 3 0), .o (.val false (.int .u8 ((rd x0 vi0.toNat 0).int))), .o (.q (IntKind.i64.wrap (rd x0 vi0.toNat 0).int)), .o (.q (IntKind.i64.wrap (rd x0 vi0.toNat 0).int)), .o (.val true (.bool false)), .d, .d, .d, .d, .d, .d, .d, .d, .d, .d, .d, .d, .d, .d, .d, .d, .d, .d, .d, .d, .d, .d, .o (.q vi0), .o (.q (IntKind.i64.wrap (vi0 + (2 : Int)))), .o (.ext 0), .o (.q (↑x0.length : Int)), .o (.val true (.bool false)), .d, .d, .d, .d, .d, .d, .d, .d, .d, .d, .d, .d, .d, .d, .d, .d, .d, .d, .d, .d, .d, .d, .d, .d, .d, .d, .d, .d, .d, .d, .d], [(0, .grid ([Sh.int IntKind.u8]) x0), (1, .row ([Sh.int IntKind.u8]) 5 vl0), (3, .elem 0 (Int.rec (fun a => (fun a => (fun n => n) a) a) (fun a => (fun a => (fun a => (0 : Nat)) a) a) vi0) 1), (6, .row ([Sh.int IntKind.u8]) 5 v.2)], 7, []⟩
noncomputable def rsp_L2_T (x0 : List (List Ct)) (x1 : Int) (vi0 : Int) (vl0 : List (List Ct)) (v : Int × List (List Ct)) : Ex × St := ((.exit 2), ⟨(rsp_L2_S x0 x1 vi0 vl0 v).fr, (rsp_L2_S x0 x1 vi0 vl0 v).hp, 8, []⟩)
noncomputable def rsp_L2_rd (ex : Ex) (s : St) : Option ((Int × List (List Ct)) ⊕ (Int × List (List Ct))) × List (Nat × Option Nat) := match ex with
  | .normal => (some (.inl (rI (frC s 10 0), rL s (frC s 9 0))), [(1, some 1), (3, some 3), rnOf 6 (frC s 9 0)])
  | .exit i => bif Nat.beq i 2 then (some (.inr (rI (frC s 10 0), rL s (frC s 9 0))), [(1, some 1), (3, some 3), (6, some 6)]) else (none, [])
  | _ => (none, [])
noncomputable def rsp_L2_step (x0 : List (List Ct)) (x1 : Int) (vi0 : Int) (vl0 : List (List Ct)) : (Int × List (List Ct)) → Option ((Int × List (List Ct)) ⊕ (Int × List (List Ct))) := fun v => match v with
  | (wi0, wl0) => bif (decide (wi0 < IntKind.i64.wrap (IntKind.i64.wrap (rd x0 vi0.toNat 0).int - (126 : Int)))) then (bif (decide ((0 : Int) ≤ IntKind.i64.wrap (vi0 + (1 : Int)) ∧ IntKind.i64.wrap (vi0 + (1 : Int)) < (↑x0.length : Int))) then bif (decide (wl0.length + [[Ct.i (rd x0 (IntKind.i64.wrap (vi0 + (1 : Int))).toNat 0).int]].length ≤ 9223372036854775807 ∧ (wl0.length + [[Ct.i (rd x0 (IntKind.i64.wrap (vi0 + (1 : Int))).toNat 0).int]].length) * 1 ≤ 140737488355328)) then some (.inl (IntKind.i64.wrap (wi0 + (1 : Int)), wl0 ++ [[Ct.i (rd x0 (IntKind.i64.wrap (vi0 + (1 : Int))).toNat 0).int]])) else none else none) else some (.inr (wi0, wl0))
noncomputable def rsp_L2_c : Code := loopC Try.prog 95 2
set_option maxRecDepth 100000 in
theorem rsp_L2_ok (x0 : List (List Ct)) (x1 : Int) (vi0 : Int) (vl0 : List (List Ct)) : ∀ v, StepOk Try.prog 1 rsp_L2_c (rsp_L2_S x0 x1 vi0 vl0) (rsp_L2_T x0 x1 vi0 vl0) v (rsp_L2_step x0 x1 vi0 vl0 v) := fun v => match v with | (wi0, wl0) => eng_step (C := (⟨consPack, fun _ _ _ => none, fun f => false, noFacts, fun _ => 0⟩ : Cfg Try.prog)) noFacts_ok (n := 30) (f := 95) rsp_L2_rd (fun _ => rfl) (by kernel_rfl)
noncomputable def rsp_L2_p (x0 : List (List Ct)) (x1 : Int) (vi0 : Int) (vl0 : List (List Ct)) : Bool := (iter (rsp_L2_step x0 x1 vi0 vl0) 1000 (0, [])).isSome
noncomputable def rsp_L2_v (x0 : List (List Ct)) (x1 : Int) (vi0 : Int) (vl0 : List (List Ct)) : Int × List (List Ct) := loopRes (rsp_L2_step x0 x1 vi0 vl0) 1000 (0, [])
set_option maxRecDepth 100000 in
noncomputable def rsp_L2_lc (x0 : List (List Ct)) (x1 : Int) (vi0 : Int) (vl0 : List (List Ct)) : LoopCon Try.prog := loopCon Try.prog 1 rsp_L2_c [(1, some 1), (3, some 3), (6, none)] (rsp_L2_S x0 x1 vi0 vl0) (rsp_L2_T x0 x1 vi0 vl0) 2 (rsp_L2_step x0 x1 vi0 vl0) (rsp_L2_ok x0 x1 vi0 vl0) 1000 (0, []) (rsp_L2_p x0 x1 vi0 vl0) rfl (rsp_L2_v x0 x1 vi0 vl0) rfl
noncomputable def rsp_L0_S (x0 : List (List Ct)) (x1 : Int) (v : Int × List (List Ct)) : St := ⟨[.o (.ext 0), .o (.q x1), .d, .d, .o (.val true (Value.slice none 0 0)), .o (.val true (.int .i64 0)), .o (.ext 1), .o (.q v.1), .d, .d, .d, .d, .d, .d, .d, .d, .d, .d, .d, .d, .d, .d, .d, .d, .d, .d, .d, .d, .d, .d, .d, .d, .d, .d, .d, .d, .d, .d, .d, .d, .d, .d, .d, .d, .d, .d, .d, .d, .d, .d, .d, .d, .d, .d, .d, .d, .d, .d, .d, .d, .d, .d, .d, .d, .d, .d, .d, .d, .d, .d, .d, .d, .d, .d, .d, .d, .d, .d, .d, .d], [(0, .grid ([Sh.int IntKind.u8]) x0), (1, .row ([Sh.int IntKind.u8]) 5 v.2)], 2, []⟩
noncomputable def rsp_L0_T (x0 : List (List Ct)) (x1 : Int) : (Int × List (List Ct)) ⊕ (Int) → Ex × St
  | .inl v => ((.exit 0), ⟨[.o (.ext 0), .o (.q x1), .d, .d, .o (.val true (Value.slice none 0 0)), .o (.val true (.int .i64 0)), .o (.ext 1), .o (.q v.1), .d, .d, .d, .d, .d, .d, .d, .d, .d, .d, .d, .d, .d, .d, .d, .d, .d, .d, .d, .d, .d, .d, .d, .d, .d, .d, .d, .d, .d, .d, .d, .d, .d, .d, .d, .d, .d, .d, .d, .d, .d, .d, .d, .d, .d, .d, .d, .d, .d, .d, .d, .d, .d, .d, .d, .d, .d, .d, .d, .d, .d, .d, .d, .d, .d, .d, .d, .d, .d, .d, .d, .d], [(0, .grid ([Sh.int IntKind.u8]) x0), (1, .row ([Sh.int IntKind.u8]) 5 v.2)], 3, []⟩)
  | .inr v => (.ret, ⟨[.dead, .dead, .dead, .dead, .sv (.one (.val true (Value.slice none 0 0))), .sv (.one (.val false (.int .i64 v))), .dead, .dead, .dead, .dead, .dead, .dead, .dead, .dead, .dead, .dead, .dead, .dead, .dead, .dead, .dead, .dead, .dead, .dead, .dead, .dead, .dead, .dead, .dead, .dead, .dead, .dead, .dead, .dead, .dead, .dead, .dead, .dead, .dead, .dead, .dead, .dead, .dead, .dead, .dead, .dead, .dead, .dead, .dead, .dead, .dead, .dead, .dead, .dead, .dead, .dead, .dead, .dead, .dead, .dead, .dead, .dead, .dead, .dead, .dead, .dead, .dead, .dead, .dead, .dead, .dead, .dead, .dead, .dead, .dead, .dead, .dead, .dead, .dead, .dead], [(0, .grid ([Sh.int IntKind.u8]) x0)], 10, []⟩)
noncomputable def rsp_L0_rd (ex : Ex) (s : St) : Option ((Int × List (List Ct)) ⊕ ((Int × List (List Ct)) ⊕ (Int))) × List (Nat × Option Nat) := match ex with
  | .normal => (some (.inl (rI (frC s 7 0), rL s (frC s 6 0))), [rnOf 1 (frC s 6 0)])
  | .exit i => bif Nat.beq i 0 then (some (.inr (.inl (rI (frC s 7 0), rL s (frC s 6 0)))), [(1, some 1)]) else (none, [])
  | .ret => (some (.inr (.inr (rI (frC s 5 0)))), [])
noncomputable def rsp_L0_step (x0 : List (List Ct)) (x1 : Int) : (Int × List (List Ct)) → Option ((Int × List (List Ct)) ⊕ ((Int × List (List Ct)) ⊕ (Int))) := fun v => match v with
  | (vi0, vl0) => bif (decide (vi0 < (↑x0.length : Int))) then (bif (decide ((0 : Int) ≤ vi0 ∧ vi0 < (↑x0.length : Int))) then bif (decide (IntKind.i64.wrap (rd x0 vi0.toNat 0).int < (128 : Int))) then (bif (decide (IntKind.i64.wrap (IntKind.i64.wrap (IntKind.i64.wrap (vi0 + (1 : Int)) + IntKind.i64.wrap (rd x0 vi0.toNat 0).int) + (1 : Int)) > (↑x0.length : Int))) then (some (.inr (.inr 9))) else bif (decide ((0 : Int) ≤ IntKind.i64.wrap (vi0 + (1 : Int)) ∧ IntKind.i64.wrap (vi0 + (1 : Int)) ≤ IntKind.i64.wrap (IntKind.i64.wrap (vi0 + (2 : Int)) + IntKind.i64.wrap (rd x0 vi0.toNat 0).int) ∧ IntKind.i64.wrap (IntKind.i64.wrap (vi0 + (2 : Int)) + IntKind.i64.wrap (rd x0 vi0.toNat 0).int) ≤ (↑x0.length : Int))) then bif (decide (0 + (partOf x0 (IntKind.i64.wrap (vi0 + (1 : Int))) (IntKind.i64.wrap (IntKind.i64.wrap (vi0 + (2 : Int)) + IntKind.i64.wrap (rd x0 vi0.toNat 0).int))).length ≤ 9223372036854775807 ∧ (0 + (partOf x0 (IntKind.i64.wrap (vi0 + (1 : Int))) (IntKind.i64.wrap (IntKind.i64.wrap (vi0 + (2 : Int)) + IntKind.i64.wrap (rd x0 vi0.toNat 0).int))).length) * 1 ≤ 140737488355328)) then bif (decide (x1 < (0 : Int))) then (some (.inr (.inr 8))) else bif (decide (IntKind.i64.wrap ((↑vl0.length : Int) + (↑([] ++ partOf x0 (IntKind.i64.wrap (vi0 + (1 : Int))) (IntKind.i64.wrap (IntKind.i64.wrap (vi0 + (2 : Int)) + IntKind.i64.wrap (rd x0 vi0.toNat 0).int))).length : Int)) > x1)) then (some (.inr (.inr 8))) else bif (decide (vl0.length + ([] ++ partOf x0 (IntKind.i64.wrap (vi0 + (1 : Int))) (IntKind.i64.wrap (IntKind.i64.wrap (vi0 + (2 : Int)) + IntKind.i64.wrap (rd x0 vi0.toNat 0).int))).length ≤ 9223372036854775807 ∧ (vl0.length + ([] ++ partOf x0 (IntKind.i64.wrap (vi0 + (1 : Int))) (IntKind.i64.wrap (IntKind.i64.wrap (vi0 + (2 : Int)) + IntKind.i64.wrap (rd x0 vi0.toNat 0).int))).length) * 1 ≤ 140737488355328)) then some (.inl (IntKind.i64.wrap (IntKind.i64.wrap (vi0 + (2 : Int)) + IntKind.i64.wrap (rd x0 vi0.toNat 0).int), vl0 ++ ([] ++ partOf x0 (IntKind.i64.wrap (vi0 + (1 : Int))) (IntKind.i64.wrap (IntKind.i64.wrap (vi0 + (2 : Int)) + IntKind.i64.wrap (rd x0 vi0.toNat 0).int))))) else none else none else none) else bif (decide (IntKind.i64.wrap (vi0 + (2 : Int)) > (↑x0.length : Int))) then (some (.inr (.inr 9))) else bif (rsp_L2_p x0 x1 vi0 vl0) then bif (decide (x1 < (0 : Int))) then (some (.inr (.inr 8))) else bif (decide (IntKind.i64.wrap ((↑vl0.length : Int) + (↑(rsp_L2_v x0 x1 vi0 vl0).snd.length : Int)) > x1)) then (some (.inr (.inr 8))) else bif (decide (vl0.length + (rsp_L2_v x0 x1 vi0 vl0).snd.length ≤ 9223372036854775807 ∧ (vl0.length + (rsp_L2_v x0 x1 vi0 vl0).snd.length) * 1 ≤ 140737488355328)) then some (.inl (IntKind.i64.wrap (vi0 + (2 : Int)), vl0 ++ (rsp_L2_v x0 x1 vi0 vl0).snd)) else none else none else none) else some (.inr (.inl (vi0, vl0)))
noncomputable def rsp_L0_c : Code := loopC Try.prog 95 0
set_option maxRecDepth 100000 in
theorem rsp_L0_ok (x0 : List (List Ct)) (x1 : Int) : ∀ v, StepOk Try.prog 1 rsp_L0_c (rsp_L0_S x0 x1) (rsp_L0_T x0 x1) v (rsp_L0_step x0 x1 v) := fun v => match v with | (vi0, vl0) => eng_step (C := (⟨consPack, fun f id nx => bif Nat.beq f 95 then (bif Nat.beq id 2 then some (rsp_L2_lc x0 x1 vi0 vl0) else none) else none, fun f => false, noFacts, fun _ => 0⟩ : Cfg Try.prog)) noFacts_ok (n := 30) (f := 95) rsp_L0_rd (fun r => by cases r <;> rfl) (by kernel_rfl)
noncomputable def rsp_L0_p (x0 : List (List Ct)) (x1 : Int) : Bool := (iter (rsp_L0_step x0 x1) (x0.length + 1) (0, [])).isSome
noncomputable def rsp_L0_v (x0 : List (List Ct)) (x1 : Int) : (Int × List (List Ct)) ⊕ (Int) := (iter (rsp_L0_step x0 x1) (x0.length + 1) (0, [])).getD (.inl default)
set_option maxRecDepth 100000 in
noncomputable def rsp_L0_lc (x0 : List (List Ct)) (x1 : Int) : LoopCon Try.prog := loopCon2 Try.prog 1 rsp_L0_c [(1, none)] (rsp_L0_S x0 x1) (rsp_L0_T x0 x1) 0 (rsp_L0_step x0 x1) (rsp_L0_ok x0 x1) (x0.length + 1) (0, []) (rsp_L0_p x0 x1) rfl (rsp_L0_v x0 x1) rfl
noncomputable def rsp_O (v : Int × List (List Ct)) : Out := ⟨.tup [.one (.ext 1), .one (.val false (.int .i64 v.1))], [(1, .row ([Sh.int IntKind.u8]) 5 v.2)], 10, []⟩
noncomputable def rsp_rd (out : Out) : Option (Int × List (List Ct)) := some (rI (rvC out.v 1 0), hpL' out.up 1)
noncomputable def rsp_res (x0 : List (List Ct)) (x1 : Int) : Option (Int × List (List Ct)) := bif (rsp_L0_p x0 x1) then bif (isL (rsp_L0_v x0 x1)) then (some (0, (getL (rsp_L0_v x0 x1)).snd)) else some (getR (rsp_L0_v x0 x1), []) else none
set_option maxRecDepth 100000 in
theorem rsp_tree {x0 : List (List Ct)} {x1 : Int} {v : Int × List (List Ct)} (h : rsp_res x0 x1 = some v) : CallOk Try.prog 95 [.sv (.one (.ext 0)), .sv (.one (.val false (.int .i64 x1)))] [(0, .grid [.int .u8] x0)] 1 (rsp_O v) :=
  eng_treeN (C := (⟨consPack, fun f id nx => bif Nat.beq f 95 then (bif Nat.beq id 0 then some (rsp_L0_lc x0 x1) else none) else none, fun f => false, noFacts, fun _ => 0⟩ : Cfg Try.prog)) noFacts_ok (n := 30) (f := 95) rsp_O rsp_rd rfl (by kernel_rfl) h
noncomputable def rsp_v (x0 : List (List Ct)) (x1 : Int) : Int × List (List Ct) := (rsp_res x0 x1).getD default
theorem rsp_spec (x0 : List (List Ct)) (x1 : Int) (h : ((rsp_res x0 x1).isSome) = true) : rsp_res x0 x1 = some (rsp_v x0 x1) := opt_get h
noncomputable def rsp_m (args : List RV) (hp : Hp) : Option ((List (List Ct) × Int) × List Nat) := match args with
  | [.sv (.one (.ext i0)), .sv (.one (.val _ (.int .i64 x1)))] => (match gridAt hp i0 [.int .u8] with
    | some x0 => some ((x0, x1), [i0])
    | _ => none)
  | _ => none
noncomputable def rsp_con : Con Try.prog := conX Try.prog 95 rsp_m 1 (fun x => [.sv (.one (.ext 0)), .sv (.one (.val false (.int .i64 x.2)))]) (fun x => [(0, .grid [.int .u8] x.1)]) (fun x => some ((rsp_res x.1 x.2).isSome)) (fun x => rsp_O (rsp_v x.1 x.2))
  (by
    intro args hp x r h
    unfold rsp_m at h
    split at h
    · split at h
      · rename_i g0
        cases h
        refine ⟨rfl, fun nx => ⟨rfl, ?_, ?_⟩⟩
        · intro i hi
          simp only [List.mem_cons, List.not_mem_nil, or_false] at hi
          rcases hi with rfl
          · exact ⟨_, List.mem_of_getElem? (i := 0) rfl, .inl (by simp [RV.ids, SV.ids, CV.ids])⟩
        · intro id o0 ho
          have := hlook_mem ho
          simp only [List.mem_cons, Prod.mk.injEq, List.not_mem_nil, or_false] at this
          rcases this with ⟨rfl, rfl⟩
          · exact ⟨_, gridAt_spec g0, rfl⟩
      · cases h
    · cases h)
  (fun x h => ⟨rfl, rfl, rsp_tree (rsp_spec x.1 x.2 (h _ rfl))⟩)
noncomputable def consPack7 : List (Con Try.prog) := [rsp_con.freezeR.freezeO] ++ consPack6
end Go.Proofs.Ytcpbiijegbbafaa
