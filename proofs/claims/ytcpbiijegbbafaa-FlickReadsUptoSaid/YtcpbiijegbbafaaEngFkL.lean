/- Pictures to and fro; the same ones; such as aren't too great. No condition. -/
import Derived.Test.YtcpbiijegbbafaaEngFk3
import Derived.Test.YtcpbiijegbbafaaEngFk7
set_option linter.unusedVariables false
set_option linter.unusedSimpArgs false
namespace Go.Proofs.Ytcpbiijegbbafaa
open Go.RowKit

noncomputable def pto_O (v : Int × Int × List (List Ct)) : Out := ⟨.sv (.agg [.val false (.int .i64 v.1), .val false (.int .i64 v.2.1), .ext 4]), [(4, .row ((fun s => (List.replicate 3 s).flatten) [Sh.int IntKind.u8]) 165 v.2.2)], 5, []⟩
noncomputable def pto_rd (out : Out) : Option (Int × Int × List (List Ct)) := some (rI (rvC out.v 0 0), rI (rvC out.v 0 1), hpL' out.up 4)
noncomputable def pto_res (x0_0 : Int) (x0_1 : Int) (x0_2 : List (List Ct)) : Option (Int × Int × List (List Ct)) := bif (decide (0 + x0_2.length ≤ 9223372036854775807 ∧ (0 + x0_2.length) * 3 ≤ 140737488355328)) then some (x0_0, x0_1, [] ++ x0_2) else none
set_option maxRecDepth 100000 in
theorem pto_tree {x0_0 : Int} {x0_1 : Int} {x0_2 : List (List Ct)} {v : Int × Int × List (List Ct)} (h : pto_res x0_0 x0_1 x0_2 = some v) : CallOk Try.prog 83 [.sv (.agg [.val false (.int .i64 x0_0), .val false (.int .i64 x0_1), .ext 0])] [(0, .grid [.int .u8, .int .u8, .int .u8] x0_2)] 1 (pto_O v) :=
  eng_tree (C := (⟨[], fun _ _ _ => none, fun f => false, noFacts, fun _ => 0⟩ : Cfg Try.prog)) noFacts_ok (n := 30) (f := 83) pto_O pto_rd rfl (by kernel_rfl) h
noncomputable def pto_v (x0_0 : Int) (x0_1 : Int) (x0_2 : List (List Ct)) : Int × Int × List (List Ct) := (pto_res x0_0 x0_1 x0_2).getD default
theorem pto_spec (x0_0 : Int) (x0_1 : Int) (x0_2 : List (List Ct)) (h : ((pto_res x0_0 x0_1 x0_2).isSome) = true) : pto_res x0_0 x0_1 x0_2 = some (pto_v x0_0 x0_1 x0_2) := opt_get h
noncomputable def pto_m (args : List RV) (hp : Hp) : Option ((Int × Int × List (List Ct)) × List Nat) := match args with
  | [.sv (.agg [.val _ (.int .i64 x0_0), .val _ (.int .i64 x0_1), .ext i0])] => (match gridAt hp i0 [.int .u8, .int .u8, .int .u8] with
    | some x0_2 => some ((x0_0, x0_1, x0_2), [i0])
    | _ => none)
  | _ => none
noncomputable def pto_con : Con Try.prog := conX Try.prog 83 pto_m 1 (fun x => [.sv (.agg [.val false (.int .i64 x.1), .val false (.int .i64 x.2.1), .ext 0])]) (fun x => [(0, .grid [.int .u8, .int .u8, .int .u8] x.2.2)]) (fun x => some ((pto_res x.1 x.2.1 x.2.2).isSome)) (fun x => pto_O (pto_v x.1 x.2.1 x.2.2))
  (by
    intro args hp x r h
    unfold pto_m at h
    split at h
    · split at h
      · rename_i g0
        cases h
        refine ⟨rfl, fun nx => ⟨rfl, ?_, ?_⟩⟩
        · intro i hi
          simp only [List.mem_cons, List.not_mem_nil, or_false] at hi
          rcases hi with rfl
          · exact ⟨_, List.mem_of_getElem? (i := 0) rfl, .inl (by simp [RV.ids, SV.ids, CV.ids])⟩
        · intro id o0 ho
          have := hlook_mem ho
          simp only [List.mem_cons, Prod.mk.injEq, List.not_mem_nil, or_false] at this
          rcases this with ⟨rfl, rfl⟩
          · exact ⟨_, gridAt_spec g0, rfl⟩
      · cases h
    · cases h)
  (fun x h => ⟨rfl, rfl, pto_tree (pto_spec x.1 x.2.1 x.2.2 (h _ rfl))⟩)

noncomputable def psa_L0_S (x0_0 : Int) (x0_1 : Int) (x0_2 : List (List Ct)) (x1_0 : Int) (x1_1 : Int) (x1_2 : List (List Ct)) (v : Int) : St := ⟨[.sv (.agg [.q x0_0, .q x0_1, .ext 0]), .sv (.agg [.q x1_0, .q x1_1, .ext 1]), .o (.ptr 2 0), .o (.ptr 3 0), .o (.val true (.bool false)), .o (.q v), .o (.ptr 2 0), .o (.q x0_0), .o (.ptr 3 0), .o (.q x1_0), .o (.val false (.bool (x0_0 != x1_0))), .o (.val true (.bool false)), .o (.ptr 2 1), .o (.q x0_1), .o (.ptr 3 1), .o (.q x1_1), .o (.val false (.bool (x0_1 != x1_1))), .o (.val false (.bool (x0_1 != x1_1))), .o (.val true (.bool false)), .o (.ptr 2 2), .o (.ext 0), .o (.q (↑x0_2.length : Int)), .o (.ptr 3 2), .o (.ext 1), .o (.q (↑x1_2.length : Int)), .o (.val false (.bool ((↑x0_2.length : Int) != (↑x1_2.length : Int)))), .o (.val true (.bool false)), .d, .d, .d, .d, .d, .d, .d, .d, .d, .d, .d, .d, .d, .d, .d, .d, .d, .d], [(0, .grid ([Sh.int IntKind.u8, Sh.int IntKind.u8, Sh.int IntKind.u8]) x0_2), (1, .grid ([Sh.int IntKind.u8, Sh.int IntKind.u8, Sh.int IntKind.u8]) x1_2), (2, .cells [.q x0_0, .q x0_1, .ext 0] 83), (3, .cells [.q x1_0, .q x1_1, .ext 1] 83)], 7, []⟩
noncomputable def psa_L0_T (x0_0 : Int) (x0_1 : Int) (x0_2 : List (List Ct)) (x1_0 : Int) (x1_1 : Int) (x1_2 : List (List Ct)) : (Int) ⊕ (Unit) → Ex × St
  | .inl v => ((.exit 0), ⟨[.sv (.agg [.q x0_0, .q x0_1, .ext 0]), .sv (.agg [.q x1_0, .q x1_1, .ext 1]), .o (.ptr 2 0), .o (.ptr 3 0), .o (.val true (.bool false)), .o (.q v), .o (.ptr 2 0), .o (.q x0_0), .o (.ptr 3 0), .o (.q x1_0), .o (.val false (.bool (x0_0 != x1_0))), .o (.val true (.bool false)), .o (.ptr 2 1), .o (.q x0_1), .o (.ptr 3 1), .o (.q x1_1), .o (.val false (.bool (x0_1 != x1_1))), .o (.val false (.bool (x0_1 != x1_1))), .o (.val true (.bool false)), .o (.ptr 2 2), .o (.ext 0), .o (.q (↑x0_2.length : Int)), .o (.ptr 3 2), .o (.ext 1), .o (.q (↑x1_2.length : Int)), .o (.val false (.bool ((↑x0_2.length : Int) != (↑x1_2.length : Int)))), .o (.val true (.bool false)), .d, .d, .d, .d, .d, .d, .d, .d, .d, .d, .d, .d, .d, .d, .d, .d, .d, .d], [(0, .grid ([Sh.int IntKind.u8, Sh.int IntKind.u8, Sh.int IntKind.u8]) x0_2), (1, .grid ([Sh.int IntKind.u8, Sh.int IntKind.u8, Sh.int IntKind.u8]) x1_2), (2, .cells [.q x0_0, .q x0_1, .ext 0] 83), (3, .cells [.q x1_0, .q x1_1, .ext 1] 83)], 8, []⟩)
  | .inr v => (.ret, ⟨[.dead, .dead, .dead, .dead, .sv (.one (.val true (.bool false))), .dead, .dead, .dead, .dead, .dead, .dead, .dead, .dead, .dead, .dead, .dead, .dead, .dead, .dead, .dead, .dead, .dead, .dead, .dead, .dead, .dead, .dead, .dead, .dead, .dead, .dead, .dead, .dead, .dead, .dead, .dead, .dead, .dead, .dead, .dead, .dead, .dead, .dead, .dead, .dead], [(0, .grid ([Sh.int IntKind.u8, Sh.int IntKind.u8, Sh.int IntKind.u8]) x0_2), (1, .grid ([Sh.int IntKind.u8, Sh.int IntKind.u8, Sh.int IntKind.u8]) x1_2)], 11, []⟩)
noncomputable def psa_L0_rd (ex : Ex) (s : St) : Option ((Int) ⊕ ((Int) ⊕ (Unit))) × List (Nat × Option Nat) := match ex with
  | .normal => (some (.inl (rI (frC s 5 0))), [(2, some 2), (3, some 3)])
  | .exit i => bif Nat.beq i 0 then (some (.inr (.inl (rI (frC s 5 0)))), [(2, some 2), (3, some 3)]) else (none, [])
  | .ret => (some (.inr (.inr ())), [])
noncomputable def psa_L0_step (x0_2 : List (List Ct)) (x1_2 : List (List Ct)) : (Int) → Option ((Int) ⊕ ((Int) ⊕ (Unit))) := fun v => match v with
  | vi0 => bif (decide (vi0 < (↑x0_2.length : Int))) then (bif (decide ((0 : Int) ≤ vi0 ∧ vi0 < (↑x0_2.length : Int))) then bif (decide ((0 : Int) ≤ vi0 ∧ vi0 < (↑x1_2.length : Int))) then bif (!((rd x0_2 vi0.toNat 0).int == (rd x1_2 vi0.toNat 0).int && ((rd x0_2 vi0.toNat 1).int == (rd x1_2 vi0.toNat 1).int && ((rd x0_2 vi0.toNat 2).int == (rd x1_2 vi0.toNat 2).int && true)))) then (some (.inr (.inr ()))) else some (.inl (IntKind.i64.wrap (vi0 + (1 : Int)))) else none else none) else some (.inr (.inl vi0))
noncomputable def psa_L0_c : Code := loopC Try.prog 29 0
set_option maxRecDepth 100000 in
theorem psa_L0_ok (x0_0 : Int) (x0_1 : Int) (x0_2 : List (List Ct)) (x1_0 : Int) (x1_1 : Int) (x1_2 : List (List Ct)) : ∀ v, StepOk Try.prog 2 psa_L0_c (psa_L0_S x0_0 x0_1 x0_2 x1_0 x1_1 x1_2) (psa_L0_T x0_0 x0_1 x0_2 x1_0 x1_1 x1_2) v (psa_L0_step x0_2 x1_2 v) := fun v => match v with | vi0 => eng_step (C := (⟨[], fun _ _ _ => none, fun f => false, noFacts, fun _ => 0⟩ : Cfg Try.prog)) noFacts_ok (n := 30) (f := 29) psa_L0_rd (fun r => by cases r <;> rfl) (by kernel_rfl)
noncomputable def psa_L0_p (x0_2 : List (List Ct)) (x1_2 : List (List Ct)) : Bool := (iter (psa_L0_step x0_2 x1_2) (x0_2.length + 1) 0).isSome
noncomputable def psa_L0_v (x0_2 : List (List Ct)) (x1_2 : List (List Ct)) : (Int) ⊕ (Unit) := (iter (psa_L0_step x0_2 x1_2) (x0_2.length + 1) 0).getD (.inl default)
set_option maxRecDepth 100000 in
noncomputable def psa_L0_lc (x0_0 : Int) (x0_1 : Int) (x0_2 : List (List Ct)) (x1_0 : Int) (x1_1 : Int) (x1_2 : List (List Ct)) : LoopCon Try.prog := loopCon2 Try.prog 2 psa_L0_c [(2, some 2), (3, some 3)] (psa_L0_S x0_0 x0_1 x0_2 x1_0 x1_1 x1_2) (psa_L0_T x0_0 x0_1 x0_2 x1_0 x1_1 x1_2) 0 (psa_L0_step x0_2 x1_2) (psa_L0_ok x0_0 x0_1 x0_2 x1_0 x1_1 x1_2) (x0_2.length + 1) 0 (psa_L0_p x0_2 x1_2) rfl (psa_L0_v x0_2 x1_2) rfl
noncomputable def psa_O (v : Bool) : Out := ⟨.sv (.one (.val false (.bool v))), [], 11, []⟩
noncomputable def psa_rd (out : Out) : Option (Bool) := some (rB (rvC out.v 0 0))
noncomputable def psa_res (x0_0 : Int) (x0_1 : Int) (x0_2 : List (List Ct)) (x1_0 : Int) (x1_1 : Int) (x1_2 : List (List Ct)) : Option (Bool) := bif (x0_0 != x1_0) then (some false) else bif (x0_1 != x1_1) then (some false) else bif ((↑x0_2.length : Int) != (↑x1_2.length : Int)) then (some false) else bif (psa_L0_p x0_2 x1_2) then bif (isL (psa_L0_v x0_2 x1_2)) then (some true) else some false else none
set_option maxRecDepth 100000 in
theorem psa_tree {x0_0 : Int} {x0_1 : Int} {x0_2 : List (List Ct)} {x1_0 : Int} {x1_1 : Int} {x1_2 : List (List Ct)} {v : Bool} (h : psa_res x0_0 x0_1 x0_2 x1_0 x1_1 x1_2 = some v) : CallOk Try.prog 29 [.sv (.agg [.val false (.int .i64 x0_0), .val false (.int .i64 x0_1), .ext 0]), .sv (.agg [.val false (.int .i64 x1_0), .val false (.int .i64 x1_1), .ext 1])] [(0, .grid [.int .u8, .int .u8, .int .u8] x0_2), (1, .grid [.int .u8, .int .u8, .int .u8] x1_2)] 2 (psa_O v) :=
  eng_tree (C := (⟨[], fun f id nx => bif Nat.beq f 29 then (bif Nat.beq id 0 then some (psa_L0_lc x0_0 x0_1 x0_2 x1_0 x1_1 x1_2) else none) else none, fun f => false, noFacts, fun _ => 0⟩ : Cfg Try.prog)) noFacts_ok (n := 30) (f := 29) psa_O psa_rd rfl (by kernel_rfl) h
noncomputable def psa_v (x0_0 : Int) (x0_1 : Int) (x0_2 : List (List Ct)) (x1_0 : Int) (x1_1 : Int) (x1_2 : List (List Ct)) : Bool := (psa_res x0_0 x0_1 x0_2 x1_0 x1_1 x1_2).getD default
theorem psa_spec (x0_0 : Int) (x0_1 : Int) (x0_2 : List (List Ct)) (x1_0 : Int) (x1_1 : Int) (x1_2 : List (List Ct)) (h : ((psa_res x0_0 x0_1 x0_2 x1_0 x1_1 x1_2).isSome) = true) : psa_res x0_0 x0_1 x0_2 x1_0 x1_1 x1_2 = some (psa_v x0_0 x0_1 x0_2 x1_0 x1_1 x1_2) := opt_get h
noncomputable def psa_m (args : List RV) (hp : Hp) : Option ((Int × Int × List (List Ct) × Int × Int × List (List Ct)) × List Nat) := match args with
  | [.sv (.agg [.val _ (.int .i64 x0_0), .val _ (.int .i64 x0_1), .ext i0]), .sv (.agg [.val _ (.int .i64 x1_0), .val _ (.int .i64 x1_1), .ext i1])] => (match gridAt hp i0 [.int .u8, .int .u8, .int .u8], gridAt hp i1 [.int .u8, .int .u8, .int .u8] with
    | some x0_2, some x1_2 => some ((x0_0, x0_1, x0_2, x1_0, x1_1, x1_2), [i0, i1])
    | _, _ => none)
  | _ => none
noncomputable def psa_con : Con Try.prog := conX Try.prog 29 psa_m 2 (fun x => [.sv (.agg [.val false (.int .i64 x.1), .val false (.int .i64 x.2.1), .ext 0]), .sv (.agg [.val false (.int .i64 x.2.2.2.1), .val false (.int .i64 x.2.2.2.2.1), .ext 1])]) (fun x => [(0, .grid [.int .u8, .int .u8, .int .u8] x.2.2.1), (1, .grid [.int .u8, .int .u8, .int .u8] x.2.2.2.2.2)]) (fun x => some ((psa_res x.1 x.2.1 x.2.2.1 x.2.2.2.1 x.2.2.2.2.1 x.2.2.2.2.2).isSome)) (fun x => psa_O (psa_v x.1 x.2.1 x.2.2.1 x.2.2.2.1 x.2.2.2.2.1 x.2.2.2.2.2))
  (by
    intro args hp x r h
    unfold psa_m at h
    split at h
    · split at h
      · rename_i g0 g1
        cases h
        refine ⟨rfl, fun nx => ⟨rfl, ?_, ?_⟩⟩
        · intro i hi
          simp only [List.mem_cons, List.not_mem_nil, or_false] at hi
          rcases hi with rfl | rfl
          · exact ⟨_, List.mem_of_getElem? (i := 0) rfl, .inl (by simp [RV.ids, SV.ids, CV.ids])⟩
          · exact ⟨_, List.mem_of_getElem? (i := 1) rfl, .inl (by simp [RV.ids, SV.ids, CV.ids])⟩
        · intro id o0 ho
          have := hlook_mem ho
          simp only [List.mem_cons, Prod.mk.injEq, List.not_mem_nil, or_false] at this
          rcases this with ⟨rfl, rfl⟩ | ⟨rfl, rfl⟩
          · exact ⟨_, gridAt_spec g0, rfl⟩
          · exact ⟨_, gridAt_spec g1, rfl⟩
      · cases h
    · cases h)
  (fun x h => ⟨rfl, rfl, psa_tree (psa_spec x.1 x.2.1 x.2.2.1 x.2.2.2.1 x.2.2.2.2.1 x.2.2.2.2.2 (h _ rfl))⟩)

noncomputable def isa_L0_S (x0 : List (List Ct)) (x1 : List (List Ct)) (v : Int) : St := ⟨[.o (.ext 0), .o (.ext 1), .d, .d, .o (.val true (.bool false)), .d, .o (.ext 0), .o (.q (↑x0.length : Int)), .o (.ext 1), .o (.q (↑x1.length : Int)), .o (.val true (.bool false)), .o (.ext 0), .o (.q (↑x0.length : Int)), .o (.q v), .d, .d, .d, .d, .d, .d, .d, .d, .d, .d, .d, .d], [(0, .grid ([Sh.int IntKind.i64]) x0), (1, .grid ([Sh.int IntKind.i64]) x1)], 3, []⟩
noncomputable def isa_L0_T (x0 : List (List Ct)) (x1 : List (List Ct)) : (Int) ⊕ (Unit) → Ex × St
  | .inl v => ((.exit 0), ⟨[.o (.ext 0), .o (.ext 1), .d, .d, .o (.val true (.bool false)), .d, .o (.ext 0), .o (.q (↑x0.length : Int)), .o (.ext 1), .o (.q (↑x1.length : Int)), .o (.val true (.bool false)), .o (.ext 0), .o (.q (↑x0.length : Int)), .o (.q v), .d, .d, .d, .d, .d, .d, .d, .d, .d, .d, .d, .d], [(0, .grid ([Sh.int IntKind.i64]) x0), (1, .grid ([Sh.int IntKind.i64]) x1)], 4, []⟩)
  | .inr v => (.ret, ⟨[.dead, .dead, .dead, .dead, .sv (.one (.val true (.bool false))), .dead, .dead, .dead, .dead, .dead, .dead, .dead, .dead, .dead, .dead, .dead, .dead, .dead, .dead, .dead, .dead, .dead, .dead, .dead, .dead, .dead], [(0, .grid ([Sh.int IntKind.i64]) x0), (1, .grid ([Sh.int IntKind.i64]) x1)], 7, []⟩)
noncomputable def isa_L0_rd (ex : Ex) (s : St) : Option ((Int) ⊕ ((Int) ⊕ (Unit))) × List (Nat × Option Nat) := match ex with
  | .normal => (some (.inl (rI (frC s 13 0))), [])
  | .exit i => bif Nat.beq i 0 then (some (.inr (.inl (rI (frC s 13 0)))), []) else (none, [])
  | .ret => (some (.inr (.inr ())), [])
noncomputable def isa_L0_step (x0 : List (List Ct)) (x1 : List (List Ct)) : (Int) → Option ((Int) ⊕ ((Int) ⊕ (Unit))) := fun v => match v with
  | vi0 => bif (decide (vi0 < (↑x0.length : Int))) then (bif (decide ((0 : Int) ≤ vi0 ∧ vi0 < (↑x0.length : Int))) then bif (decide ((0 : Int) ≤ vi0 ∧ vi0 < (↑x1.length : Int))) then bif ((rd x0 vi0.toNat 0).int != (rd x1 vi0.toNat 0).int) then (some (.inr (.inr ()))) else some (.inl (IntKind.i64.wrap (vi0 + (1 : Int)))) else none else none) else some (.inr (.inl vi0))
noncomputable def isa_L0_c : Code := loopC Try.prog 26 0
set_option maxRecDepth 100000 in
theorem isa_L0_ok (x0 : List (List Ct)) (x1 : List (List Ct)) : ∀ v, StepOk Try.prog 2 isa_L0_c (isa_L0_S x0 x1) (isa_L0_T x0 x1) v (isa_L0_step x0 x1 v) := fun v => match v with | vi0 => eng_step (C := (⟨[], fun _ _ _ => none, fun f => false, noFacts, fun _ => 0⟩ : Cfg Try.prog)) noFacts_ok (n := 30) (f := 26) isa_L0_rd (fun r => by cases r <;> rfl) (by kernel_rfl)
noncomputable def isa_L0_p (x0 : List (List Ct)) (x1 : List (List Ct)) : Bool := (iter (isa_L0_step x0 x1) (x0.length + 1) 0).isSome
noncomputable def isa_L0_v (x0 : List (List Ct)) (x1 : List (List Ct)) : (Int) ⊕ (Unit) := (iter (isa_L0_step x0 x1) (x0.length + 1) 0).getD (.inl default)
set_option maxRecDepth 100000 in
noncomputable def isa_L0_lc (x0 : List (List Ct)) (x1 : List (List Ct)) : LoopCon Try.prog := loopCon2 Try.prog 2 isa_L0_c [] (isa_L0_S x0 x1) (isa_L0_T x0 x1) 0 (isa_L0_step x0 x1) (isa_L0_ok x0 x1) (x0.length + 1) 0 (isa_L0_p x0 x1) rfl (isa_L0_v x0 x1) rfl
noncomputable def isa_O (v : Bool) : Out := ⟨.sv (.one (.val false (.bool v))), [], 7, []⟩
noncomputable def isa_rd (out : Out) : Option (Bool) := some (rB (rvC out.v 0 0))
noncomputable def isa_res (x0 : List (List Ct)) (x1 : List (List Ct)) : Option (Bool) := bif ((↑x0.length : Int) != (↑x1.length : Int)) then (some false) else bif (isa_L0_p x0 x1) then bif (isL (isa_L0_v x0 x1)) then (some true) else some false else none
set_option maxRecDepth 100000 in
theorem isa_tree {x0 : List (List Ct)} {x1 : List (List Ct)} {v : Bool} (h : isa_res x0 x1 = some v) : CallOk Try.prog 26 [.sv (.one (.ext 0)), .sv (.one (.ext 1))] [(0, .grid [.int .i64] x0), (1, .grid [.int .i64] x1)] 2 (isa_O v) :=
  eng_tree (C := (⟨[], fun f id nx => bif Nat.beq f 26 then (bif Nat.beq id 0 then some (isa_L0_lc x0 x1) else none) else none, fun f => false, noFacts, fun _ => 0⟩ : Cfg Try.prog)) noFacts_ok (n := 30) (f := 26) isa_O isa_rd rfl (by kernel_rfl) h
noncomputable def isa_v (x0 : List (List Ct)) (x1 : List (List Ct)) : Bool := (isa_res x0 x1).getD default
theorem isa_spec (x0 : List (List Ct)) (x1 : List (List Ct)) (h : ((isa_res x0 x1).isSome) = true) : isa_res x0 x1 = some (isa_v x0 x1) := opt_get h
noncomputable def isa_m (args : List RV) (hp : Hp) : Option ((List (List Ct) × List (List Ct)) × List Nat) := match args with
  | [.sv (.one (.ext i0)), .sv (.one (.ext i1))] => (match gridAt hp i0 [.int .i64], gridAt hp i1 [.int .i64] with
    | some x0, some x1 => some ((x0, x1), [i0, i1])
    | _, _ => none)
  | _ => none
noncomputable def isa_con : Con Try.prog := conX Try.prog 26 isa_m 2 (fun x => [.sv (.one (.ext 0)), .sv (.one (.ext 1))]) (fun x => [(0, .grid [.int .i64] x.1), (1, .grid [.int .i64] x.2)]) (fun x => some ((isa_res x.1 x.2).isSome)) (fun x => isa_O (isa_v x.1 x.2))
  (by
    intro args hp x r h
    unfold isa_m at h
    split at h
    · split at h
      · rename_i g0 g1
        cases h
        refine ⟨rfl, fun nx => ⟨rfl, ?_, ?_⟩⟩
        · intro i hi
          simp only [List.mem_cons, List.not_mem_nil, or_false] at hi
          rcases hi with rfl | rfl
          · exact ⟨_, List.mem_of_getElem? (i := 0) rfl, .inl (by simp [RV.ids, SV.ids, CV.ids])⟩
          · exact ⟨_, List.mem_of_getElem? (i := 1) rfl, .inl (by simp [RV.ids, SV.ids, CV.ids])⟩
        · intro id o0 ho
          have := hlook_mem ho
          simp only [List.mem_cons, Prod.mk.injEq, List.not_mem_nil, or_false] at this
          rcases this with ⟨rfl, rfl⟩ | ⟨rfl, rfl⟩
          · exact ⟨_, gridAt_spec g0, rfl⟩
          · exact ⟨_, gridAt_spec g1, rfl⟩
      · cases h
    · cases h)
  (fun x h => ⟨rfl, rfl, isa_tree (isa_spec x.1 x.2 (h _ rfl))⟩)

noncomputable def lig_L0_S (x0 : List (List Ct)) (v : Int × Int) : St := ⟨[.o (.ext 0), .d, .o (.val true (.bool false)), .o (.q v.1), .d, .d, .o (.ext 0), .o (.q (↑x0.length : Int)), .o (.q v.2), .d, .d, .d, .d, .d, .d, .d, .d, .d, .d, .d, .d, .d, .d, .d, .d, .d, .d, .d, .d], [(0, .grid ([Sh.int IntKind.i64, Sh.int IntKind.i64, Sh.sl [Sh.int IntKind.u8, Sh.int IntKind.u8, Sh.int IntKind.u8]]) x0)], 1, []⟩
noncomputable def lig_L0_T (x0 : List (List Ct)) : (Int × Int) ⊕ (Unit) → Ex × St
  | .inl v => ((.exit 0), ⟨[.o (.ext 0), .d, .o (.val true (.bool false)), .o (.q v.1), .d, .d, .o (.ext 0), .o (.q (↑x0.length : Int)), .o (.q v.2), .d, .d, .d, .d, .d, .d, .d, .d, .d, .d, .d, .d, .d, .d, .d, .d, .d, .d, .d, .d], [(0, .grid ([Sh.int IntKind.i64, Sh.int IntKind.i64, Sh.sl [Sh.int IntKind.u8, Sh.int IntKind.u8, Sh.int IntKind.u8]]) x0)], 2, []⟩)
  | .inr v => (.ret, ⟨[.dead, .dead, .sv (.one (.val true (.bool false))), .dead, .dead, .dead, .dead, .dead, .dead, .dead, .dead, .dead, .dead, .dead, .dead, .dead, .dead, .dead, .dead, .dead, .dead, .dead, .dead, .dead, .dead, .dead, .dead, .dead, .dead], [(0, .grid ([Sh.int IntKind.i64, Sh.int IntKind.i64, Sh.sl [Sh.int IntKind.u8, Sh.int IntKind.u8, Sh.int IntKind.u8]]) x0)], 6, []⟩)
noncomputable def lig_L0_rd (ex : Ex) (s : St) : Option ((Int × Int) ⊕ ((Int × Int) ⊕ (Unit))) × List (Nat × Option Nat) := match ex with
  | .normal => (some (.inl (rI (frC s 3 0), rI (frC s 8 0))), [])
  | .exit i => bif Nat.beq i 0 then (some (.inr (.inl (rI (frC s 3 0), rI (frC s 8 0)))), []) else (none, [])
  | .ret => (some (.inr (.inr ())), [])
noncomputable def lig_L0_step (x0 : List (List Ct)) : (Int × Int) → Option ((Int × Int) ⊕ ((Int × Int) ⊕ (Unit))) := fun v => match v with
  | (vi0, vi1) => bif (decide (vi1 < (↑x0.length : Int))) then (bif (decide ((0 : Int) ≤ vi1 ∧ vi1 < (↑x0.length : Int))) then bif (decide ((↑(rd x0 vi1.toNat 2).rows.length : Int) > (5000 : Int))) then (some (.inr (.inr ()))) else some (.inl (IntKind.i64.wrap (vi0 + (↑(rd x0 vi1.toNat 2).rows.length : Int)), IntKind.i64.wrap (vi1 + (1 : Int)))) else none) else some (.inr (.inl (vi0, vi1)))
noncomputable def lig_L0_c : Code := loopC Try.prog 20 0
set_option maxRecDepth 100000 in
theorem lig_L0_ok (x0 : List (List Ct)) : ∀ v, StepOk Try.prog 1 lig_L0_c (lig_L0_S x0) (lig_L0_T x0) v (lig_L0_step x0 v) := fun v => match v with | (vi0, vi1) => eng_step (C := (⟨[], fun _ _ _ => none, fun f => false, noFacts, fun _ => 0⟩ : Cfg Try.prog)) noFacts_ok (n := 30) (f := 20) lig_L0_rd (fun r => by cases r <;> rfl) (by kernel_rfl)
noncomputable def lig_L0_p (x0 : List (List Ct)) : Bool := (iter (lig_L0_step x0) (x0.length + 1) (0, 0)).isSome
noncomputable def lig_L0_v (x0 : List (List Ct)) : (Int × Int) ⊕ (Unit) := (iter (lig_L0_step x0) (x0.length + 1) (0, 0)).getD (.inl default)
set_option maxRecDepth 100000 in
noncomputable def lig_L0_lc (x0 : List (List Ct)) : LoopCon Try.prog := loopCon2 Try.prog 1 lig_L0_c [] (lig_L0_S x0) (lig_L0_T x0) 0 (lig_L0_step x0) (lig_L0_ok x0) (x0.length + 1) (0, 0) (lig_L0_p x0) rfl (lig_L0_v x0) rfl
noncomputable def lig_O (v : Bool) : Out := ⟨.sv (.one (.val false (.bool v))), [], 6, []⟩
noncomputable def lig_rd (out : Out) : Option (Bool) := some (rB (rvC out.v 0 0))
noncomputable def lig_res (x0 : List (List Ct)) : Option (Bool) := bif (lig_L0_p x0) then bif (isL (lig_L0_v x0)) then (bif (decide ((getL (lig_L0_v x0)).fst ≤ (9000 : Int))) then (some (decide ((↑x0.length : Int) ≤ (40 : Int)))) else some false) else some false else none
set_option maxRecDepth 100000 in
theorem lig_tree {x0 : List (List Ct)} {v : Bool} (h : lig_res x0 = some v) : CallOk Try.prog 20 [.sv (.one (.ext 0))] [(0, .grid [.int .i64, .int .i64, .sl [.int .u8, .int .u8, .int .u8]] x0)] 1 (lig_O v) :=
  eng_tree (C := (⟨[], fun f id nx => bif Nat.beq f 20 then (bif Nat.beq id 0 then some (lig_L0_lc x0) else none) else none, fun f => false, noFacts, fun _ => 0⟩ : Cfg Try.prog)) noFacts_ok (n := 30) (f := 20) lig_O lig_rd rfl (by kernel_rfl) h
noncomputable def lig_v (x0 : List (List Ct)) : Bool := (lig_res x0).getD default
theorem lig_spec (x0 : List (List Ct)) (h : ((lig_res x0).isSome) = true) : lig_res x0 = some (lig_v x0) := opt_get h
noncomputable def lig_m (args : List RV) (hp : Hp) : Option ((List (List Ct)) × List Nat) := match args with
  | [.sv (.one (.ext i0))] => (match gridAt hp i0 [.int .i64, .int .i64, .sl [.int .u8, .int .u8, .int .u8]] with
    | some x0 => some (x0, [i0])
    | _ => none)
  | _ => none
noncomputable def lig_con : Con Try.prog := conX Try.prog 20 lig_m 1 (fun x => [.sv (.one (.ext 0))]) (fun x => [(0, .grid [.int .i64, .int .i64, .sl [.int .u8, .int .u8, .int .u8]] x)]) (fun x => some ((lig_res x).isSome)) (fun x => lig_O (lig_v x))
  (by
    intro args hp x r h
    unfold lig_m at h
    split at h
    · split at h
      · rename_i g0
        cases h
        refine ⟨rfl, fun nx => ⟨rfl, ?_, ?_⟩⟩
        · intro i hi
          simp only [List.mem_cons, List.not_mem_nil, or_false] at hi
          rcases hi with rfl
          · exact ⟨_, List.mem_of_getElem? (i := 0) rfl, .inl (by simp [RV.ids, SV.ids, CV.ids])⟩
        · intro id o0 ho
          have := hlook_mem ho
          simp only [List.mem_cons, Prod.mk.injEq, List.not_mem_nil, or_false] at this
          rcases this with ⟨rfl, rfl⟩
          · exact ⟨_, gridAt_spec g0, rfl⟩
      · cases h
    · cases h)
  (fun x h => ⟨rfl, rfl, lig_tree (lig_spec x (h _ rfl))⟩)
noncomputable def consFkL : List (Con Try.prog) := [pto_con.freezeR.freezeO, psa_con, isa_con.freeze, lig_con] ++ consFk7
end Go.Proofs.Ytcpbiijegbbafaa
