/- Tracks to and fro, such as may be. No condition. -/
import Derived.Test.YtmpaelkjooahoaaEngOrbit
import Derived.Test.YtmpaelkjooahoaaLoopA
set_option linter.unusedVariables false
set_option linter.unusedSimpArgs false
namespace Go.Proofs.Ytmpaelkjooahoaa
open Go.RowKit

noncomputable def trt_L0_S (x0_0 : Int) (x0_1 : List (List Ct)) (v : Int) : St := ⟨[.sv (.agg [.q x0_0, .ext 0]), .o (.ptr 1 0), .o (.val true (.bool false)), .d, .d, .d, .d, .o (.ptr 1 0), .o (.q x0_0), .o (.val false (.bool (decide (x0_0 < (0 : Int))))), .o (.val true (.bool false)), .o (.ptr 1 0), .o (.q x0_0), .o (.val false (.bool (decide (x0_0 > (2 : Int))))), .o (.val false (.bool (decide (x0_0 > (2 : Int))))), .o (.val true (.bool false)), .o (.ptr 1 1), .o (.ext 0), .o (.q (↑x0_1.length : Int)), .o (.val false (.bool (decide ((↑x0_1.length : Int) < (1 : Int))))), .o (.val false (.bool (decide ((↑x0_1.length : Int) < (1 : Int))))), .o (.val true (.bool false)), .o (.ptr 1 1), .o (.ext 0), .o (.q (↑x0_1.length : Int)), .o (.val false (.bool (decide ((↑x0_1.length : Int) > (16 : Int))))), .o (.val true (.bool false)), .o (.ptr 1 1), .o (.ext 0), .o (.q (↑x0_1.length : Int)), .o (.q v), .d, .d, .d, .d, .d, .d, .d, .d, .d, .d, .d, .d, .d, .d, .d, .d, .d, .d, .d, .d, .d, .d, .d, .d, .d, .d, .d, .d, .d, .d, .d, .d, .d, .d, .d, .d, .d, .d, .d, .d, .d, .d, .d], [(0, .grid ([Sh.int IntKind.i64, Sh.int IntKind.i64, Sh.int IntKind.i64, Sh.int IntKind.i64]) x0_1), (1, .cells [.q x0_0, .ext 0] 33)], 6, []⟩
noncomputable def trt_L0_T (x0_0 : Int) (x0_1 : List (List Ct)) : (Int) ⊕ (Unit) → Ex × St
  | .inl v => ((.exit 0), ⟨[.sv (.agg [.q x0_0, .ext 0]), .o (.ptr 1 0), .o (.val true (.bool false)), .d, .d, .d, .d, .o (.ptr 1 0), .o (.q x0_0), .o (.val false (.bool (decide (x0_0 < (0 : Int))))), .o (.val true (.bool false)), .o (.ptr 1 0), .o (.q x0_0), .o (.val false (.bool (decide (x0_0 > (2 : Int))))), .o (.val false (.bool (decide (x0_0 > (2 : Int))))), .o (.val true (.bool false)), .o (.ptr 1 1), .o (.ext 0), .o (.q (↑x0_1.length : Int)), .o (.val false (.bool (decide ((↑x0_1.length : Int) < (1 : Int))))), .o (.val false (.bool (decide ((↑x0_1.length : Int) < (1 : Int))))), .o (.val true (.bool false)), .o (.ptr 1 1), .o (.ext 0), .o (.q (↑x0_1.length : Int)), .o (.val false (.bool (decide ((↑x0_1.length : Int) > (16 : Int))))), .o (.val true (.bool false)), .o (.ptr 1 1), .o (.ext 0), .o (.q (↑x0_1.length : Int)), .o (.q v), .d, .d, .d, .d, .d, .d, .d, .d, .d, .d, .d, .d, .d, .d, .d, .d, .d, .d, .d, .d, .d, .d, .d, .d, .d, .d, .d, .d, .d, .d, .d, .d, .d, .d, .d, .d, .d, .d, .d, .d, .d, .d, .d], [(0, .grid ([Sh.int IntKind.i64, Sh.int IntKind.i64, Sh.int IntKind.i64, Sh.int IntKind.i64]) x0_1), (1, .cells [.q x0_0, .ext 0] 33)], 7, []⟩)
  | .inr v => (.ret, ⟨[.dead, .dead, .sv (.one (.val true (.bool false))), .dead, .dead, .dead, .dead, .dead, .dead, .dead, .dead, .dead, .dead, .dead, .dead, .dead, .dead, .dead, .dead, .dead, .dead, .dead, .dead, .dead, .dead, .dead, .dead, .dead, .dead, .dead, .dead, .dead, .dead, .dead, .dead, .dead, .dead, .dead, .dead, .dead, .dead, .dead, .dead, .dead, .dead, .dead, .dead, .dead, .dead, .dead, .dead, .dead, .dead, .dead, .dead, .dead, .dead, .dead, .dead, .dead, .dead, .dead, .dead, .dead, .dead, .dead, .dead, .dead, .dead, .dead, .dead, .dead, .dead, .dead], [(0, .grid ([Sh.int IntKind.i64, Sh.int IntKind.i64, Sh.int IntKind.i64, Sh.int IntKind.i64]) x0_1)], 23, []⟩)
noncomputable def trt_L0_rd (ex : Ex) (s : St) : Option ((Int) ⊕ ((Int) ⊕ (Unit))) × List (Nat × Option Nat) := match ex with
  | .normal => (some (.inl (rI (frC s 30 0))), [(1, some 1)])
  | .exit i => bif Nat.beq i 0 then (some (.inr (.inl (rI (frC s 30 0)))), [(1, some 1)]) else (none, [])
  | .ret => (some (.inr (.inr ())), [])
noncomputable def trt_L0_step (x0_1 : List (List Ct)) : (Int) → Option ((Int) ⊕ ((Int) ⊕ (Unit))) := fun v => match v with
  | vi0 => bif (decide (vi0 < (↑x0_1.length : Int))) then (bif (decide ((0 : Int) ≤ vi0 ∧ vi0 < (↑x0_1.length : Int))) then bif (decide ((rd x0_1 vi0.toNat 0).int < (0 : Int))) then (some (.inr (.inr ()))) else bif (decide ((rd x0_1 vi0.toNat 0).int > (2097152 : Int))) then (some (.inr (.inr ()))) else bif (decide (vi0 > (0 : Int))) then (bif (decide ((0 : Int) ≤ IntKind.i64.wrap (vi0 - (1 : Int)) ∧ IntKind.i64.wrap (vi0 - (1 : Int)) < (↑x0_1.length : Int))) then bif (decide ((rd x0_1 (IntKind.i64.wrap (vi0 - (1 : Int))).toNat 0).int ≥ (rd x0_1 vi0.toNat 0).int)) then (some (.inr (.inr ()))) else bif (decide ((rd x0_1 vi0.toNat 1).int < (-2147483648 : Int))) then (some (.inr (.inr ()))) else bif (decide ((rd x0_1 vi0.toNat 1).int > (2147483648 : Int))) then (some (.inr (.inr ()))) else bif (decide ((rd x0_1 vi0.toNat 2).int < (-2147483648 : Int))) then (some (.inr (.inr ()))) else bif (decide ((rd x0_1 vi0.toNat 2).int > (2147483648 : Int))) then (some (.inr (.inr ()))) else bif (decide ((rd x0_1 vi0.toNat 3).int < (-2147483648 : Int))) then (some (.inr (.inr ()))) else bif (decide ((rd x0_1 vi0.toNat 3).int > (2147483648 : Int))) then (some (.inr (.inr ()))) else some (.inl (IntKind.i64.wrap (vi0 + (1 : Int)))) else none) else bif (decide ((rd x0_1 vi0.toNat 1).int < (-2147483648 : Int))) then (some (.inr (.inr ()))) else bif (decide ((rd x0_1 vi0.toNat 1).int > (2147483648 : Int))) then (some (.inr (.inr ()))) else bif (decide ((rd x0_1 vi0.toNat 2).int < (-2147483648 : Int))) then (some (.inr (.inr ()))) else bif (decide ((rd x0_1 vi0.toNat 2).int > (2147483648 : Int))) then (some (.inr (.inr ()))) else bif (decide ((rd x0_1 vi0.toNat 3).int < (-2147483648 : Int))) then (some (.inr (.inr ()))) else bif (decide ((rd x0_1 vi0.toNat 3).int > (2147483648 : Int))) then (some (.inr (.inr ()))) else some (.inl (IntKind.i64.wrap (vi0 + (1 : Int)))) else none) else some (.inr (.inl vi0))
noncomputable def trt_L0_c : Code := loopC Try.prog 17 0
set_option maxRecDepth 100000 in
theorem trt_L0_ok (x0_0 : Int) (x0_1 : List (List Ct)) : ∀ v, StepOk Try.prog 1 trt_L0_c (trt_L0_S x0_0 x0_1) (trt_L0_T x0_0 x0_1) v (trt_L0_step x0_1 v) := fun v => match v with | vi0 => eng_step (C := (⟨consOrbit, fun _ _ _ => none, fun f => false, noFacts, fun _ => 0⟩ : Cfg Try.prog)) noFacts_ok (n := 30) (f := 17) trt_L0_rd (fun r => by cases r <;> rfl) (by kernel_rfl)
noncomputable def trt_L0_p (x0_1 : List (List Ct)) : Bool := (iter (trt_L0_step x0_1) (x0_1.length + 1) 0).isSome
noncomputable def trt_L0_v (x0_1 : List (List Ct)) : (Int) ⊕ (Unit) := (iter (trt_L0_step x0_1) (x0_1.length + 1) 0).getD (.inl default)
set_option maxRecDepth 100000 in
noncomputable def trt_L0_lc (x0_0 : Int) (x0_1 : List (List Ct)) : LoopCon Try.prog := loopCon2 Try.prog 1 trt_L0_c [(1, some 1)] (trt_L0_S x0_0 x0_1) (trt_L0_T x0_0 x0_1) 0 (trt_L0_step x0_1) (trt_L0_ok x0_0 x0_1) (x0_1.length + 1) 0 (trt_L0_p x0_1) rfl (trt_L0_v x0_1) rfl
noncomputable def trt_O (v : Bool) : Out := ⟨.sv (.one (.val false (.bool v))), [], 23, []⟩
noncomputable def trt_rd (out : Out) : Option (Bool) := some (rB (rvC out.v 0 0))
noncomputable def trt_res (x0_0 : Int) (x0_1 : List (List Ct)) : Option (Bool) := bif (decide (x0_0 < (0 : Int))) then (some false) else bif (decide (x0_0 > (2 : Int))) then (some false) else bif (decide ((↑x0_1.length : Int) < (1 : Int))) then (some false) else bif (decide ((↑x0_1.length : Int) > (16 : Int))) then (some false) else bif (trt_L0_p x0_1) then bif (isL (trt_L0_v x0_1)) then (some true) else some false else none
set_option maxRecDepth 100000 in
theorem trt_tree {x0_0 : Int} {x0_1 : List (List Ct)} {v : Bool} (h : trt_res x0_0 x0_1 = some v) : CallOk Try.prog 17 [.sv (.agg [.val false (.int .i64 x0_0), .ext 0])] [(0, .grid [.int .i64, .int .i64, .int .i64, .int .i64] x0_1)] 1 (trt_O v) :=
  eng_tree (C := (⟨consOrbit, fun f id nx => bif Nat.beq f 17 then (bif Nat.beq id 0 then some (trt_L0_lc x0_0 x0_1) else none) else none, fun f => false, noFacts, fun _ => 0⟩ : Cfg Try.prog)) noFacts_ok (n := 30) (f := 17) trt_O trt_rd rfl (by kernel_rfl) h
noncomputable def trt_v (x0_0 : Int) (x0_1 : List (List Ct)) : Bool := (trt_res x0_0 x0_1).getD default
theorem trt_spec (x0_0 : Int) (x0_1 : List (List Ct)) (h : ((trt_res x0_0 x0_1).isSome) = true) : trt_res x0_0 x0_1 = some (trt_v x0_0 x0_1) := opt_get h
noncomputable def trt_m (args : List RV) (hp : Hp) : Option ((Int × List (List Ct)) × List Nat) := match args with
  | [.sv (.agg [.val _ (.int .i64 x0_0), .ext i0])] => (match gridAt hp i0 [.int .i64, .int .i64, .int .i64, .int .i64] with
    | some x0_1 => some ((x0_0, x0_1), [i0])
    | _ => none)
  | _ => none
noncomputable def trt_con : Con Try.prog := conX Try.prog 17 trt_m 1 (fun x => [.sv (.agg [.val false (.int .i64 x.1), .ext 0])]) (fun x => [(0, .grid [.int .i64, .int .i64, .int .i64, .int .i64] x.2)]) (fun x => some ((trt_res x.1 x.2).isSome)) (fun x => trt_O (trt_v x.1 x.2))
  (by
    intro args hp x r h
    unfold trt_m at h
    split at h
    · split at h
      · rename_i g0
        cases h
        refine ⟨rfl, fun nx => ⟨rfl, ?_, ?_⟩⟩
        · intro i hi
          simp only [List.mem_cons, List.not_mem_nil, or_false] at hi
          rcases hi with rfl
          · exact ⟨_, List.mem_of_getElem? (i := 0) rfl, .inl (by simp [RV.ids, SV.ids, CV.ids])⟩
        · intro id o0 ho
          have := hlook_mem ho
          simp only [List.mem_cons, Prod.mk.injEq, List.not_mem_nil, or_false] at this
          rcases this with ⟨rfl, rfl⟩
          · exact ⟨_, gridAt_spec g0, rfl⟩
      · cases h
    · cases h)
  (fun x h => ⟨rfl, rfl, trt_tree (trt_spec x.1 x.2 (h _ rfl))⟩)

noncomputable def rrt_L0_S (x0_0 : Int) (x0_1 : List (List Ct)) (v : Int) : St := ⟨[.sv (.agg [.q x0_0, .ext 0]), .o (.ptr 1 0), .o (.val true (.bool false)), .o (.q v), .d, .d, .o (.ptr 1 0), .o (.q x0_0), .o (.val false (.bool (decide (x0_0 < (0 : Int))))), .o (.val true (.bool false)), .o (.ptr 1 0), .o (.q x0_0), .o (.val false (.bool (decide (x0_0 > (2 : Int))))), .o (.val false (.bool (decide (x0_0 > (2 : Int))))), .o (.val true (.bool false)), .o (.ptr 1 1), .o (.ext 0), .o (.q (↑x0_1.length : Int)), .o (.val false (.bool (decide ((↑x0_1.length : Int) < (1 : Int))))), .o (.val false (.bool (decide ((↑x0_1.length : Int) < (1 : Int))))), .o (.val true (.bool false)), .o (.ptr 1 1), .o (.ext 0), .o (.q (↑x0_1.length : Int)), .o (.val false (.bool (decide ((↑x0_1.length : Int) > (16 : Int))))), .o (.val true (.bool false)), .d, .d, .d, .d, .d, .d, .d, .d, .d, .d, .d, .d, .d, .d, .d, .d, .d, .d, .d, .d, .d, .d, .d, .d, .d, .d, .d, .d, .d, .d, .d, .d, .d, .d, .d, .d, .d, .d, .d, .d, .d, .d, .d, .d, .d, .d, .d, .d, .d, .d], [(0, .grid ([Sh.int IntKind.i64, Sh.int IntKind.i64, Sh.int IntKind.i64, Sh.int IntKind.i64]) x0_1), (1, .cells [.q x0_0, .ext 0] 39)], 6, []⟩
noncomputable def rrt_L0_T (x0_0 : Int) (x0_1 : List (List Ct)) : (Int) ⊕ (Unit) → Ex × St
  | .inl v => ((.exit 0), ⟨[.sv (.agg [.q x0_0, .ext 0]), .o (.ptr 1 0), .o (.val true (.bool false)), .o (.q v), .d, .d, .o (.ptr 1 0), .o (.q x0_0), .o (.val false (.bool (decide (x0_0 < (0 : Int))))), .o (.val true (.bool false)), .o (.ptr 1 0), .o (.q x0_0), .o (.val false (.bool (decide (x0_0 > (2 : Int))))), .o (.val false (.bool (decide (x0_0 > (2 : Int))))), .o (.val true (.bool false)), .o (.ptr 1 1), .o (.ext 0), .o (.q (↑x0_1.length : Int)), .o (.val false (.bool (decide ((↑x0_1.length : Int) < (1 : Int))))), .o (.val false (.bool (decide ((↑x0_1.length : Int) < (1 : Int))))), .o (.val true (.bool false)), .o (.ptr 1 1), .o (.ext 0), .o (.q (↑x0_1.length : Int)), .o (.val false (.bool (decide ((↑x0_1.length : Int) > (16 : Int))))), .o (.val true (.bool false)), .d, .d, .d, .d, .d, .d, .d, .d, .d, .d, .d, .d, .d, .d, .d, .d, .d, .d, .d, .d, .d, .d, .d, .d, .d, .d, .d, .d, .d, .d, .d, .d, .d, .d, .d, .d, .d, .d, .d, .d, .d, .d, .d, .d, .d, .d, .d, .d, .d, .d], [(0, .grid ([Sh.int IntKind.i64, Sh.int IntKind.i64, Sh.int IntKind.i64, Sh.int IntKind.i64]) x0_1), (1, .cells [.q x0_0, .ext 0] 39)], 7, []⟩)
  | .inr v => (.ret, ⟨[.dead, .dead, .sv (.one (.val true (.bool false))), .dead, .dead, .dead, .dead, .dead, .dead, .dead, .dead, .dead, .dead, .dead, .dead, .dead, .dead, .dead, .dead, .dead, .dead, .dead, .dead, .dead, .dead, .dead, .dead, .dead, .dead, .dead, .dead, .dead, .dead, .dead, .dead, .dead, .dead, .dead, .dead, .dead, .dead, .dead, .dead, .dead, .dead, .dead, .dead, .dead, .dead, .dead, .dead, .dead, .dead, .dead, .dead, .dead, .dead, .dead, .dead, .dead, .dead, .dead, .dead, .dead, .dead, .dead, .dead, .dead, .dead, .dead, .dead, .dead, .dead, .dead, .dead, .dead], [(0, .grid ([Sh.int IntKind.i64, Sh.int IntKind.i64, Sh.int IntKind.i64, Sh.int IntKind.i64]) x0_1)], 17, []⟩)
noncomputable def rrt_L0_rd (ex : Ex) (s : St) : Option ((Int) ⊕ ((Int) ⊕ (Unit))) × List (Nat × Option Nat) := match ex with
  | .normal => (some (.inl (rI (frC s 3 0))), [(1, some 1)])
  | .exit i => bif Nat.beq i 0 then (some (.inr (.inl (rI (frC s 3 0)))), [(1, some 1)]) else (none, [])
  | .ret => (some (.inr (.inr ())), [])
noncomputable def rrt_L0_step (x0_1 : List (List Ct)) : (Int) → Option ((Int) ⊕ ((Int) ⊕ (Unit))) := fun v => match v with
  | vi0 => bif (decide (vi0 < (↑x0_1.length : Int))) then (bif (decide ((0 : Int) ≤ vi0 ∧ vi0 < (↑x0_1.length : Int))) then bif (decide ((rd x0_1 vi0.toNat 0).int < (0 : Int))) then (some (.inr (.inr ()))) else bif (decide ((rd x0_1 vi0.toNat 0).int > (2097152 : Int))) then (some (.inr (.inr ()))) else bif (decide (vi0 > (0 : Int))) then (bif (decide ((0 : Int) ≤ IntKind.i64.wrap (vi0 - (1 : Int)) ∧ IntKind.i64.wrap (vi0 - (1 : Int)) < (↑x0_1.length : Int))) then bif (decide ((rd x0_1 vi0.toNat 0).int ≤ (rd x0_1 (IntKind.i64.wrap (vi0 - (1 : Int))).toNat 0).int)) then (some (.inr (.inr ()))) else bif ((rd x0_1 vi0.toNat 1).int != heldS (rd x0_1 vi0.toNat 1).int) then (some (.inr (.inr ()))) else bif ((rd x0_1 vi0.toNat 2).int != heldS (rd x0_1 vi0.toNat 2).int) then (some (.inr (.inr ()))) else bif ((rd x0_1 vi0.toNat 3).int != heldS (rd x0_1 vi0.toNat 3).int) then (some (.inr (.inr ()))) else some (.inl (IntKind.i64.wrap (vi0 + (1 : Int)))) else none) else bif ((rd x0_1 vi0.toNat 1).int != heldS (rd x0_1 vi0.toNat 1).int) then (some (.inr (.inr ()))) else bif ((rd x0_1 vi0.toNat 2).int != heldS (rd x0_1 vi0.toNat 2).int) then (some (.inr (.inr ()))) else bif ((rd x0_1 vi0.toNat 3).int != heldS (rd x0_1 vi0.toNat 3).int) then (some (.inr (.inr ()))) else some (.inl (IntKind.i64.wrap (vi0 + (1 : Int)))) else none) else some (.inr (.inl vi0))
noncomputable def rrt_L0_c : Code := loopC Try.prog 61 0
set_option maxRecDepth 100000 in
theorem rrt_L0_ok (x0_0 : Int) (x0_1 : List (List Ct)) : ∀ v, StepOk Try.prog 1 rrt_L0_c (rrt_L0_S x0_0 x0_1) (rrt_L0_T x0_0 x0_1) v (rrt_L0_step x0_1 v) := fun v => match v with | vi0 => eng_step (C := (⟨consOrbit, fun _ _ _ => none, fun f => false, noFacts, fun _ => 0⟩ : Cfg Try.prog)) noFacts_ok (n := 30) (f := 61) rrt_L0_rd (fun r => by cases r <;> rfl) (by kernel_rfl)
noncomputable def rrt_L0_p (x0_1 : List (List Ct)) : Bool := (iter (rrt_L0_step x0_1) (x0_1.length + 1) 0).isSome
noncomputable def rrt_L0_v (x0_1 : List (List Ct)) : (Int) ⊕ (Unit) := (iter (rrt_L0_step x0_1) (x0_1.length + 1) 0).getD (.inl default)
set_option maxRecDepth 100000 in
noncomputable def rrt_L0_lc (x0_0 : Int) (x0_1 : List (List Ct)) : LoopCon Try.prog := loopCon2 Try.prog 1 rrt_L0_c [(1, some 1)] (rrt_L0_S x0_0 x0_1) (rrt_L0_T x0_0 x0_1) 0 (rrt_L0_step x0_1) (rrt_L0_ok x0_0 x0_1) (x0_1.length + 1) 0 (rrt_L0_p x0_1) rfl (rrt_L0_v x0_1) rfl
noncomputable def rrt_O (v : Bool) : Out := ⟨.sv (.one (.val false (.bool v))), [], 17, []⟩
noncomputable def rrt_rd (out : Out) : Option (Bool) := some (rB (rvC out.v 0 0))
noncomputable def rrt_res (x0_0 : Int) (x0_1 : List (List Ct)) : Option (Bool) := bif (decide (x0_0 < (0 : Int))) then (some false) else bif (decide (x0_0 > (2 : Int))) then (some false) else bif (decide ((↑x0_1.length : Int) < (1 : Int))) then (some false) else bif (decide ((↑x0_1.length : Int) > (16 : Int))) then (some false) else bif (rrt_L0_p x0_1) then bif (isL (rrt_L0_v x0_1)) then (some true) else some false else none
set_option maxRecDepth 100000 in
theorem rrt_tree {x0_0 : Int} {x0_1 : List (List Ct)} {v : Bool} (h : rrt_res x0_0 x0_1 = some v) : CallOk Try.prog 61 [.sv (.agg [.val false (.int .i64 x0_0), .ext 0])] [(0, .grid [.int .i64, .int .i64, .int .i64, .int .i64] x0_1)] 1 (rrt_O v) :=
  eng_tree (C := (⟨consOrbit, fun f id nx => bif Nat.beq f 61 then (bif Nat.beq id 0 then some (rrt_L0_lc x0_0 x0_1) else none) else none, fun f => false, noFacts, fun _ => 0⟩ : Cfg Try.prog)) noFacts_ok (n := 30) (f := 61) rrt_O rrt_rd rfl (by kernel_rfl) h
noncomputable def rrt_v (x0_0 : Int) (x0_1 : List (List Ct)) : Bool := (rrt_res x0_0 x0_1).getD default
theorem rrt_spec (x0_0 : Int) (x0_1 : List (List Ct)) (h : ((rrt_res x0_0 x0_1).isSome) = true) : rrt_res x0_0 x0_1 = some (rrt_v x0_0 x0_1) := opt_get h
noncomputable def rrt_m (args : List RV) (hp : Hp) : Option ((Int × List (List Ct)) × List Nat) := match args with
  | [.sv (.agg [.val _ (.int .i64 x0_0), .ext i0])] => (match gridAt hp i0 [.int .i64, .int .i64, .int .i64, .int .i64] with
    | some x0_1 => some ((x0_0, x0_1), [i0])
    | _ => none)
  | _ => none
noncomputable def rrt_con : Con Try.prog := conX Try.prog 61 rrt_m 1 (fun x => [.sv (.agg [.val false (.int .i64 x.1), .ext 0])]) (fun x => [(0, .grid [.int .i64, .int .i64, .int .i64, .int .i64] x.2)]) (fun x => some ((rrt_res x.1 x.2).isSome)) (fun x => rrt_O (rrt_v x.1 x.2))
  (by
    intro args hp x r h
    unfold rrt_m at h
    split at h
    · split at h
      · rename_i g0
        cases h
        refine ⟨rfl, fun nx => ⟨rfl, ?_, ?_⟩⟩
        · intro i hi
          simp only [List.mem_cons, List.not_mem_nil, or_false] at hi
          rcases hi with rfl
          · exact ⟨_, List.mem_of_getElem? (i := 0) rfl, .inl (by simp [RV.ids, SV.ids, CV.ids])⟩
        · intro id o0 ho
          have := hlook_mem ho
          simp only [List.mem_cons, Prod.mk.injEq, List.not_mem_nil, or_false] at this
          rcases this with ⟨rfl, rfl⟩
          · exact ⟨_, gridAt_spec g0, rfl⟩
      · cases h
    · cases h)
  (fun x h => ⟨rfl, rfl, rrt_tree (rrt_spec x.1 x.2 (h _ rfl))⟩)

noncomputable def tky_L0_S (x0 : List (List Ct)) (v : Int × List (List Ct)) : St := ⟨[.o (.ext 0), .d, .o (.val true (Value.slice none 0 0)), .o (.ext 1), .d, .d, .o (.ext 0), .o (.q (↑x0.length : Int)), .o (.q v.1), .d, .d, .d, .d, .d, .d, .d, .d, .d, .d, .d, .d, .d, .d], [(0, .grid ([Sh.int IntKind.i64, Sh.int IntKind.i64, Sh.int IntKind.i64, Sh.int IntKind.i64]) x0), (1, .row ([Sh.int IntKind.i64, Sh.int IntKind.i64, Sh.int IntKind.i64, Sh.int IntKind.i64]) 86 v.2)], 2, []⟩
noncomputable def tky_L0_T (x0 : List (List Ct)) (v : Int × List (List Ct)) : Ex × St := ((.exit 0), ⟨(tky_L0_S x0 v).fr, (tky_L0_S x0 v).hp, 3, []⟩)
noncomputable def tky_L0_rd (ex : Ex) (s : St) : Option ((Int × List (List Ct)) ⊕ (Int × List (List Ct))) × List (Nat × Option Nat) := match ex with
  | .normal => (some (.inl (rI (frC s 8 0), rL s (frC s 3 0))), [rnOf 1 (frC s 3 0)])
  | .exit i => bif Nat.beq i 0 then (some (.inr (rI (frC s 8 0), rL s (frC s 3 0))), [(1, some 1)]) else (none, [])
  | _ => (none, [])
noncomputable def tky_L0_step (x0 : List (List Ct)) : (Int × List (List Ct)) → Option ((Int × List (List Ct)) ⊕ (Int × List (List Ct))) := fun v => match v with
  | (vi0, vl0) => bif (decide (vi0 < (↑x0.length : Int))) then (bif (decide ((0 : Int) ≤ vi0 ∧ vi0 < (↑x0.length : Int))) then bif (decide (vl0.length + [[Ct.i (rd x0 vi0.toNat 0).int, Ct.i (rd x0 vi0.toNat 1).int, Ct.i (rd x0 vi0.toNat 2).int, Ct.i (rd x0 vi0.toNat 3).int]].length ≤ 9223372036854775807 ∧ (vl0.length + [[Ct.i (rd x0 vi0.toNat 0).int, Ct.i (rd x0 vi0.toNat 1).int, Ct.i (rd x0 vi0.toNat 2).int, Ct.i (rd x0 vi0.toNat 3).int]].length) * 32 ≤ 140737488355328)) then some (.inl (IntKind.i64.wrap (vi0 + (1 : Int)), vl0 ++ [[Ct.i (rd x0 vi0.toNat 0).int, Ct.i (rd x0 vi0.toNat 1).int, Ct.i (rd x0 vi0.toNat 2).int, Ct.i (rd x0 vi0.toNat 3).int]])) else none else none) else some (.inr (vi0, vl0))
noncomputable def tky_L0_c : Code := loopC Try.prog 49 0
set_option maxRecDepth 100000 in
theorem tky_L0_ok (x0 : List (List Ct)) : ∀ v, StepOk Try.prog 1 tky_L0_c (tky_L0_S x0) (tky_L0_T x0) v (tky_L0_step x0 v) := fun v => match v with | (vi0, vl0) => eng_step (C := (⟨consOrbit, fun _ _ _ => none, fun f => false, noFacts, fun _ => 0⟩ : Cfg Try.prog)) noFacts_ok (n := 30) (f := 49) tky_L0_rd (fun _ => rfl) (by kernel_rfl)
noncomputable def tky_L0_p (x0 : List (List Ct)) : Bool := (iter (tky_L0_step x0) (x0.length + 1) (0, [])).isSome
noncomputable def tky_L0_v (x0 : List (List Ct)) : Int × List (List Ct) := loopRes (tky_L0_step x0) (x0.length + 1) (0, [])
set_option maxRecDepth 100000 in
noncomputable def tky_L0_lc (x0 : List (List Ct)) : LoopCon Try.prog := loopCon Try.prog 1 tky_L0_c [(1, none)] (tky_L0_S x0) (tky_L0_T x0) 0 (tky_L0_step x0) (tky_L0_ok x0) (x0.length + 1) (0, []) (tky_L0_p x0) rfl (tky_L0_v x0) rfl
noncomputable def tky_O (v : List (List Ct)) : Out := ⟨.sv (.one (.ext 1)), [(1, .row ([Sh.int IntKind.i64, Sh.int IntKind.i64, Sh.int IntKind.i64, Sh.int IntKind.i64]) 86 v)], 3, []⟩
noncomputable def tky_rd (out : Out) : Option (List (List Ct)) := some (hpL' out.up 1)
noncomputable def tky_res (x0 : List (List Ct)) : Option (List (List Ct)) := bif (tky_L0_p x0) then some ((tky_L0_v x0).snd) else none
set_option maxRecDepth 100000 in
theorem tky_tree {x0 : List (List Ct)} {v : List (List Ct)} (h : tky_res x0 = some v) : CallOk Try.prog 49 [.sv (.one (.ext 0))] [(0, .grid [.int .i64, .int .i64, .int .i64, .int .i64] x0)] 1 (tky_O v) :=
  eng_tree (C := (⟨consOrbit, fun f id nx => bif Nat.beq f 49 then (bif Nat.beq id 0 then some (tky_L0_lc x0) else none) else none, fun f => false, noFacts, fun _ => 0⟩ : Cfg Try.prog)) noFacts_ok (n := 30) (f := 49) tky_O tky_rd rfl (by kernel_rfl) h
noncomputable def tky_v (x0 : List (List Ct)) : List (List Ct) := (tky_res x0).getD default
theorem tky_spec (x0 : List (List Ct)) (h : ((tky_res x0).isSome) = true) : tky_res x0 = some (tky_v x0) := opt_get h
noncomputable def tky_m (args : List RV) (hp : Hp) : Option ((List (List Ct)) × List Nat) := match args with
  | [.sv (.one (.ext i0))] => (match gridAt hp i0 [.int .i64, .int .i64, .int .i64, .int .i64] with
    | some x0 => some (x0, [i0])
    | _ => none)
  | _ => none
noncomputable def tky_con : Con Try.prog := conX Try.prog 49 tky_m 1 (fun x => [.sv (.one (.ext 0))]) (fun x => [(0, .grid [.int .i64, .int .i64, .int .i64, .int .i64] x)]) (fun x => some ((tky_res x).isSome)) (fun x => tky_O (tky_v x))
  (by
    intro args hp x r h
    unfold tky_m at h
    split at h
    · split at h
      · rename_i g0
        cases h
        refine ⟨rfl, fun nx => ⟨rfl, ?_, ?_⟩⟩
        · intro i hi
          simp only [List.mem_cons, List.not_mem_nil, or_false] at hi
          rcases hi with rfl
          · exact ⟨_, List.mem_of_getElem? (i := 0) rfl, .inl (by simp [RV.ids, SV.ids, CV.ids])⟩
        · intro id o0 ho
          have := hlook_mem ho
          simp only [List.mem_cons, Prod.mk.injEq, List.not_mem_nil, or_false] at this
          rcases this with ⟨rfl, rfl⟩
          · exact ⟨_, gridAt_spec g0, rfl⟩
      · cases h
    · cases h)
  (fun x h => ⟨rfl, rfl, tky_tree (tky_spec x (h _ rfl))⟩)

noncomputable def tfr_L0_S (x0_0 : Int) (x0_1 : List (List Ct)) (v : Int × List (List Ct)) : St := ⟨[.sv (.agg [.q x0_0, .ext 0]), .o (.ptr 1 0), .o (.ptr 2 0), .o (.ptr 3 0), .d, .d, .o (.ptr 1 0), .o (.q x0_0), .sv (.agg [.q x0_0, .val true (Value.slice none 0 0)]), .o (.ptr 1 1), .o (.ext 0), .o (.q (↑x0_1.length : Int)), .o (.q v.1), .d, .d, .d, .d, .d, .d, .d, .d, .d, .d, .d, .d, .d, .d, .d, .d], [(0, .grid ([Sh.int IntKind.i64, Sh.int IntKind.i64, Sh.int IntKind.i64, Sh.int IntKind.i64]) x0_1), (1, .cells [.q x0_0, .ext 0] 33), (2, .cells [.val true (.int .i64 0), .val true (Value.slice none 0 0)] 39), (3, .cells [.q x0_0, .ext 4] 39), (4, .row ([Sh.int IntKind.i64, Sh.int IntKind.i64, Sh.int IntKind.i64, Sh.int IntKind.i64]) 73 v.2)], 5, []⟩
noncomputable def tfr_L0_T (x0_0 : Int) (x0_1 : List (List Ct)) (v : Int × List (List Ct)) : Ex × St := ((.exit 0), ⟨(tfr_L0_S x0_0 x0_1 v).fr, (tfr_L0_S x0_0 x0_1 v).hp, 6, []⟩)
noncomputable def tfr_L0_rd (ex : Ex) (s : St) : Option ((Int × List (List Ct)) ⊕ (Int × List (List Ct))) × List (Nat × Option Nat) := match ex with
  | .normal => (some (.inl (rI (frC s 12 0), rL s (hpC s 3 1))), [(1, some 1), (2, some 2), (3, some 3), rnOf 4 (hpC s 3 1)])
  | .exit i => bif Nat.beq i 0 then (some (.inr (rI (frC s 12 0), rL s (hpC s 3 1))), [(1, some 1), (2, some 2), (3, some 3), (4, some 4)]) else (none, [])
  | _ => (none, [])
noncomputable def tfr_L0_step (x0_1 : List (List Ct)) : (Int × List (List Ct)) → Option ((Int × List (List Ct)) ⊕ (Int × List (List Ct))) := fun v => match v with
  | (vi0, vl0) => bif (decide (vi0 < (↑x0_1.length : Int))) then (bif (decide ((0 : Int) ≤ vi0 ∧ vi0 < (↑x0_1.length : Int))) then bif (decide (vl0.length + [[Ct.i (rd x0_1 vi0.toNat 0).int, Ct.i (rd x0_1 vi0.toNat 1).int, Ct.i (rd x0_1 vi0.toNat 2).int, Ct.i (rd x0_1 vi0.toNat 3).int]].length ≤ 9223372036854775807 ∧ (vl0.length + [[Ct.i (rd x0_1 vi0.toNat 0).int, Ct.i (rd x0_1 vi0.toNat 1).int, Ct.i (rd x0_1 vi0.toNat 2).int, Ct.i (rd x0_1 vi0.toNat 3).int]].length) * 32 ≤ 140737488355328)) then some (.inl (IntKind.i64.wrap (vi0 + (1 : Int)), vl0 ++ [[Ct.i (rd x0_1 vi0.toNat 0).int, Ct.i (rd x0_1 vi0.toNat 1).int, Ct.i (rd x0_1 vi0.toNat 2).int, Ct.i (rd x0_1 vi0.toNat 3).int]])) else none else none) else some (.inr (vi0, vl0))
noncomputable def tfr_L0_c : Code := loopC Try.prog 20 0
set_option maxRecDepth 100000 in
theorem tfr_L0_ok (x0_0 : Int) (x0_1 : List (List Ct)) : ∀ v, StepOk Try.prog 1 tfr_L0_c (tfr_L0_S x0_0 x0_1) (tfr_L0_T x0_0 x0_1) v (tfr_L0_step x0_1 v) := fun v => match v with | (vi0, vl0) => eng_step (C := (⟨consOrbit, fun _ _ _ => none, fun f => false, noFacts, fun _ => 0⟩ : Cfg Try.prog)) noFacts_ok (n := 30) (f := 20) tfr_L0_rd (fun _ => rfl) (by kernel_rfl)
noncomputable def tfr_L0_p (x0_1 : List (List Ct)) : Bool := (iter (tfr_L0_step x0_1) (x0_1.length + 1) (0, [])).isSome
noncomputable def tfr_L0_v (x0_1 : List (List Ct)) : Int × List (List Ct) := loopRes (tfr_L0_step x0_1) (x0_1.length + 1) (0, [])
set_option maxRecDepth 100000 in
noncomputable def tfr_L0_lc (x0_0 : Int) (x0_1 : List (List Ct)) : LoopCon Try.prog := loopCon Try.prog 1 tfr_L0_c [(1, some 1), (2, some 2), (3, some 3), (4, none)] (tfr_L0_S x0_0 x0_1) (tfr_L0_T x0_0 x0_1) 0 (tfr_L0_step x0_1) (tfr_L0_ok x0_0 x0_1) (x0_1.length + 1) (0, []) (tfr_L0_p x0_1) rfl (tfr_L0_v x0_1) rfl
noncomputable def tfr_O (v : Int × List (List Ct)) : Out := ⟨.sv (.agg [.val false (.int .i64 v.1), .ext 4]), [(4, .row ([Sh.int IntKind.i64, Sh.int IntKind.i64, Sh.int IntKind.i64, Sh.int IntKind.i64]) 73 v.2)], 6, []⟩
noncomputable def tfr_rd (out : Out) : Option (Int × List (List Ct)) := some (rI (rvC out.v 0 0), hpL' out.up 4)
noncomputable def tfr_res (x0_0 : Int) (x0_1 : List (List Ct)) : Option (Int × List (List Ct)) := bif (tfr_L0_p x0_1) then some (x0_0, (tfr_L0_v x0_1).snd) else none
set_option maxRecDepth 100000 in
theorem tfr_tree {x0_0 : Int} {x0_1 : List (List Ct)} {v : Int × List (List Ct)} (h : tfr_res x0_0 x0_1 = some v) : CallOk Try.prog 20 [.sv (.agg [.val false (.int .i64 x0_0), .ext 0])] [(0, .grid [.int .i64, .int .i64, .int .i64, .int .i64] x0_1)] 1 (tfr_O v) :=
  eng_tree (C := (⟨consOrbit, fun f id nx => bif Nat.beq f 20 then (bif Nat.beq id 0 then some (tfr_L0_lc x0_0 x0_1) else none) else none, fun f => false, noFacts, fun _ => 0⟩ : Cfg Try.prog)) noFacts_ok (n := 30) (f := 20) tfr_O tfr_rd rfl (by kernel_rfl) h
noncomputable def tfr_v (x0_0 : Int) (x0_1 : List (List Ct)) : Int × List (List Ct) := (tfr_res x0_0 x0_1).getD default
theorem tfr_spec (x0_0 : Int) (x0_1 : List (List Ct)) (h : ((tfr_res x0_0 x0_1).isSome) = true) : tfr_res x0_0 x0_1 = some (tfr_v x0_0 x0_1) := opt_get h
noncomputable def tfr_m (args : List RV) (hp : Hp) : Option ((Int × List (List Ct)) × List Nat) := match args with
  | [.sv (.agg [.val _ (.int .i64 x0_0), .ext i0])] => (match gridAt hp i0 [.int .i64, .int .i64, .int .i64, .int .i64] with
    | some x0_1 => some ((x0_0, x0_1), [i0])
    | _ => none)
  | _ => none
noncomputable def tfr_con : Con Try.prog := conX Try.prog 20 tfr_m 1 (fun x => [.sv (.agg [.val false (.int .i64 x.1), .ext 0])]) (fun x => [(0, .grid [.int .i64, .int .i64, .int .i64, .int .i64] x.2)]) (fun x => some ((tfr_res x.1 x.2).isSome)) (fun x => tfr_O (tfr_v x.1 x.2))
  (by
    intro args hp x r h
    unfold tfr_m at h
    split at h
    · split at h
      · rename_i g0
        cases h
        refine ⟨rfl, fun nx => ⟨rfl, ?_, ?_⟩⟩
        · intro i hi
          simp only [List.mem_cons, List.not_mem_nil, or_false] at hi
          rcases hi with rfl
          · exact ⟨_, List.mem_of_getElem? (i := 0) rfl, .inl (by simp [RV.ids, SV.ids, CV.ids])⟩
        · intro id o0 ho
          have := hlook_mem ho
          simp only [List.mem_cons, Prod.mk.injEq, List.not_mem_nil, or_false] at this
          rcases this with ⟨rfl, rfl⟩
          · exact ⟨_, gridAt_spec g0, rfl⟩
      · cases h
    · cases h)
  (fun x h => ⟨rfl, rfl, tfr_tree (tfr_spec x.1 x.2 (h _ rfl))⟩)

noncomputable def rsa_L0_S (x0_0 : Int) (x0_1 : List (List Ct)) (x1_0 : Int) (x1_1 : List (List Ct)) (v : Int) : St := ⟨[.sv (.agg [.q x0_0, .ext 0]), .sv (.agg [.q x1_0, .ext 1]), .o (.ptr 2 0), .o (.ptr 3 0), .o (.val true (.bool false)), .o (.q v), .o (.ptr 2 0), .o (.q x0_0), .o (.ptr 3 0), .o (.q x1_0), .o (.val false (.bool (x0_0 != x1_0))), .o (.val true (.bool false)), .o (.ptr 2 1), .o (.ext 0), .o (.q (↑x0_1.length : Int)), .o (.ptr 3 1), .o (.ext 1), .o (.q (↑x1_1.length : Int)), .o (.val false (.bool ((↑x0_1.length : Int) != (↑x1_1.length : Int)))), .o (.val true (.bool false)), .d, .d, .d, .d, .d, .d, .d, .d, .d, .d, .d, .d, .d, .d, .d, .d, .d, .d], [(0, .grid ([Sh.int IntKind.i64, Sh.int IntKind.i64, Sh.int IntKind.i64, Sh.int IntKind.i64]) x0_1), (1, .grid ([Sh.int IntKind.i64, Sh.int IntKind.i64, Sh.int IntKind.i64, Sh.int IntKind.i64]) x1_1), (2, .cells [.q x0_0, .ext 0] 39), (3, .cells [.q x1_0, .ext 1] 39)], 6, []⟩
noncomputable def rsa_L0_T (x0_0 : Int) (x0_1 : List (List Ct)) (x1_0 : Int) (x1_1 : List (List Ct)) : (Int) ⊕ (Unit) → Ex × St
  | .inl v => ((.exit 0), ⟨[.sv (.agg [.q x0_0, .ext 0]), .sv (.agg [.q x1_0, .ext 1]), .o (.ptr 2 0), .o (.ptr 3 0), .o (.val true (.bool false)), .o (.q v), .o (.ptr 2 0), .o (.q x0_0), .o (.ptr 3 0), .o (.q x1_0), .o (.val false (.bool (x0_0 != x1_0))), .o (.val true (.bool false)), .o (.ptr 2 1), .o (.ext 0), .o (.q (↑x0_1.length : Int)), .o (.ptr 3 1), .o (.ext 1), .o (.q (↑x1_1.length : Int)), .o (.val false (.bool ((↑x0_1.length : Int) != (↑x1_1.length : Int)))), .o (.val true (.bool false)), .d, .d, .d, .d, .d, .d, .d, .d, .d, .d, .d, .d, .d, .d, .d, .d, .d, .d], [(0, .grid ([Sh.int IntKind.i64, Sh.int IntKind.i64, Sh.int IntKind.i64, Sh.int IntKind.i64]) x0_1), (1, .grid ([Sh.int IntKind.i64, Sh.int IntKind.i64, Sh.int IntKind.i64, Sh.int IntKind.i64]) x1_1), (2, .cells [.q x0_0, .ext 0] 39), (3, .cells [.q x1_0, .ext 1] 39)], 7, []⟩)
  | .inr v => (.ret, ⟨[.dead, .dead, .dead, .dead, .sv (.one (.val true (.bool false))), .dead, .dead, .dead, .dead, .dead, .dead, .dead, .dead, .dead, .dead, .dead, .dead, .dead, .dead, .dead, .dead, .dead, .dead, .dead, .dead, .dead, .dead, .dead, .dead, .dead, .dead, .dead, .dead, .dead, .dead, .dead, .dead, .dead], [(0, .grid ([Sh.int IntKind.i64, Sh.int IntKind.i64, Sh.int IntKind.i64, Sh.int IntKind.i64]) x0_1), (1, .grid ([Sh.int IntKind.i64, Sh.int IntKind.i64, Sh.int IntKind.i64, Sh.int IntKind.i64]) x1_1)], 10, []⟩)
noncomputable def rsa_L0_rd (ex : Ex) (s : St) : Option ((Int) ⊕ ((Int) ⊕ (Unit))) × List (Nat × Option Nat) := match ex with
  | .normal => (some (.inl (rI (frC s 5 0))), [(2, some 2), (3, some 3)])
  | .exit i => bif Nat.beq i 0 then (some (.inr (.inl (rI (frC s 5 0)))), [(2, some 2), (3, some 3)]) else (none, [])
  | .ret => (some (.inr (.inr ())), [])
noncomputable def rsa_L0_step (x0_1 : List (List Ct)) (x1_1 : List (List Ct)) : (Int) → Option ((Int) ⊕ ((Int) ⊕ (Unit))) := fun v => match v with
  | vi0 => bif (decide (vi0 < (↑x0_1.length : Int))) then (bif (decide ((0 : Int) ≤ vi0 ∧ vi0 < (↑x0_1.length : Int))) then bif (decide ((0 : Int) ≤ vi0 ∧ vi0 < (↑x1_1.length : Int))) then bif (!((rd x0_1 vi0.toNat 0).int == (rd x1_1 vi0.toNat 0).int && ((rd x0_1 vi0.toNat 1).int == (rd x1_1 vi0.toNat 1).int && ((rd x0_1 vi0.toNat 2).int == (rd x1_1 vi0.toNat 2).int && ((rd x0_1 vi0.toNat 3).int == (rd x1_1 vi0.toNat 3).int && true)) && true))) then (some (.inr (.inr ()))) else some (.inl (IntKind.i64.wrap (vi0 + (1 : Int)))) else none else none) else some (.inr (.inl vi0))
noncomputable def rsa_L0_c : Code := loopC Try.prog 19 0
set_option maxRecDepth 100000 in
theorem rsa_L0_ok (x0_0 : Int) (x0_1 : List (List Ct)) (x1_0 : Int) (x1_1 : List (List Ct)) : ∀ v, StepOk Try.prog 2 rsa_L0_c (rsa_L0_S x0_0 x0_1 x1_0 x1_1) (rsa_L0_T x0_0 x0_1 x1_0 x1_1) v (rsa_L0_step x0_1 x1_1 v) := fun v => match v with | vi0 => eng_step (C := (⟨consOrbit, fun _ _ _ => none, fun f => false, noFacts, fun _ => 0⟩ : Cfg Try.prog)) noFacts_ok (n := 30) (f := 19) rsa_L0_rd (fun r => by cases r <;> rfl) (by kernel_rfl)
noncomputable def rsa_L0_p (x0_1 : List (List Ct)) (x1_1 : List (List Ct)) : Bool := (iter (rsa_L0_step x0_1 x1_1) (x0_1.length + 1) 0).isSome
noncomputable def rsa_L0_v (x0_1 : List (List Ct)) (x1_1 : List (List Ct)) : (Int) ⊕ (Unit) := (iter (rsa_L0_step x0_1 x1_1) (x0_1.length + 1) 0).getD (.inl default)
set_option maxRecDepth 100000 in
noncomputable def rsa_L0_lc (x0_0 : Int) (x0_1 : List (List Ct)) (x1_0 : Int) (x1_1 : List (List Ct)) : LoopCon Try.prog := loopCon2 Try.prog 2 rsa_L0_c [(2, some 2), (3, some 3)] (rsa_L0_S x0_0 x0_1 x1_0 x1_1) (rsa_L0_T x0_0 x0_1 x1_0 x1_1) 0 (rsa_L0_step x0_1 x1_1) (rsa_L0_ok x0_0 x0_1 x1_0 x1_1) (x0_1.length + 1) 0 (rsa_L0_p x0_1 x1_1) rfl (rsa_L0_v x0_1 x1_1) rfl
noncomputable def rsa_O (v : Bool) : Out := ⟨.sv (.one (.val false (.bool v))), [], 10, []⟩
noncomputable def rsa_rd (out : Out) : Option (Bool) := some (rB (rvC out.v 0 0))
noncomputable def rsa_res (x0_0 : Int) (x0_1 : List (List Ct)) (x1_0 : Int) (x1_1 : List (List Ct)) : Option (Bool) := bif (x0_0 != x1_0) then (some false) else bif ((↑x0_1.length : Int) != (↑x1_1.length : Int)) then (some false) else bif (rsa_L0_p x0_1 x1_1) then bif (isL (rsa_L0_v x0_1 x1_1)) then (some true) else some false else none
set_option maxRecDepth 100000 in
theorem rsa_tree {x0_0 : Int} {x0_1 : List (List Ct)} {x1_0 : Int} {x1_1 : List (List Ct)} {v : Bool} (h : rsa_res x0_0 x0_1 x1_0 x1_1 = some v) : CallOk Try.prog 19 [.sv (.agg [.val false (.int .i64 x0_0), .ext 0]), .sv (.agg [.val false (.int .i64 x1_0), .ext 1])] [(0, .grid [.int .i64, .int .i64, .int .i64, .int .i64] x0_1), (1, .grid [.int .i64, .int .i64, .int .i64, .int .i64] x1_1)] 2 (rsa_O v) :=
  eng_tree (C := (⟨consOrbit, fun f id nx => bif Nat.beq f 19 then (bif Nat.beq id 0 then some (rsa_L0_lc x0_0 x0_1 x1_0 x1_1) else none) else none, fun f => false, noFacts, fun _ => 0⟩ : Cfg Try.prog)) noFacts_ok (n := 30) (f := 19) rsa_O rsa_rd rfl (by kernel_rfl) h
noncomputable def rsa_v (x0_0 : Int) (x0_1 : List (List Ct)) (x1_0 : Int) (x1_1 : List (List Ct)) : Bool := (rsa_res x0_0 x0_1 x1_0 x1_1).getD default
theorem rsa_spec (x0_0 : Int) (x0_1 : List (List Ct)) (x1_0 : Int) (x1_1 : List (List Ct)) (h : ((rsa_res x0_0 x0_1 x1_0 x1_1).isSome) = true) : rsa_res x0_0 x0_1 x1_0 x1_1 = some (rsa_v x0_0 x0_1 x1_0 x1_1) := opt_get h
noncomputable def rsa_m (args : List RV) (hp : Hp) : Option ((Int × List (List Ct) × Int × List (List Ct)) × List Nat) := match args with
  | [.sv (.agg [.val _ (.int .i64 x0_0), .ext i0]), .sv (.agg [.val _ (.int .i64 x1_0), .ext i1])] => (match gridAt hp i0 [.int .i64, .int .i64, .int .i64, .int .i64], gridAt hp i1 [.int .i64, .int .i64, .int .i64, .int .i64] with
    | some x0_1, some x1_1 => some ((x0_0, x0_1, x1_0, x1_1), [i0, i1])
    | _, _ => none)
  | _ => none
noncomputable def rsa_con : Con Try.prog := conX Try.prog 19 rsa_m 2 (fun x => [.sv (.agg [.val false (.int .i64 x.1), .ext 0]), .sv (.agg [.val false (.int .i64 x.2.2.1), .ext 1])]) (fun x => [(0, .grid [.int .i64, .int .i64, .int .i64, .int .i64] x.2.1), (1, .grid [.int .i64, .int .i64, .int .i64, .int .i64] x.2.2.2)]) (fun x => some ((rsa_res x.1 x.2.1 x.2.2.1 x.2.2.2).isSome)) (fun x => rsa_O (rsa_v x.1 x.2.1 x.2.2.1 x.2.2.2))
  (by
    intro args hp x r h
    unfold rsa_m at h
    split at h
    · split at h
      · rename_i g0 g1
        cases h
        refine ⟨rfl, fun nx => ⟨rfl, ?_, ?_⟩⟩
        · intro i hi
          simp only [List.mem_cons, List.not_mem_nil, or_false] at hi
          rcases hi with rfl | rfl
          · exact ⟨_, List.mem_of_getElem? (i := 0) rfl, .inl (by simp [RV.ids, SV.ids, CV.ids])⟩
          · exact ⟨_, List.mem_of_getElem? (i := 1) rfl, .inl (by simp [RV.ids, SV.ids, CV.ids])⟩
        · intro id o0 ho
          have := hlook_mem ho
          simp only [List.mem_cons, Prod.mk.injEq, List.not_mem_nil, or_false] at this
          rcases this with ⟨rfl, rfl⟩ | ⟨rfl, rfl⟩
          · exact ⟨_, gridAt_spec g0, rfl⟩
          · exact ⟨_, gridAt_spec g1, rfl⟩
      · cases h
    · cases h)
  (fun x h => ⟨rfl, rfl, rsa_tree (rsa_spec x.1 x.2.1 x.2.2.1 x.2.2.2 (h _ rfl))⟩)

noncomputable def lli_L0_S (x0 : List (List Ct)) (v : Int) : St := ⟨[.o (.ext 0), .d, .o (.val true (.bool false)), .d, .d, .o (.ext 0), .o (.q (↑x0.length : Int)), .o (.q v), .d, .d, .d, .d, .d, .d, .d, .d], [(0, .grid ([Sh.int IntKind.i64, Sh.sl [Sh.int IntKind.i64, Sh.int IntKind.i64, Sh.int IntKind.i64, Sh.int IntKind.i64]]) x0)], 1, []⟩
noncomputable def lli_L0_T (x0 : List (List Ct)) : (Int) ⊕ (Unit) → Ex × St
  | .inl v => ((.exit 0), ⟨[.o (.ext 0), .d, .o (.val true (.bool false)), .d, .d, .o (.ext 0), .o (.q (↑x0.length : Int)), .o (.q v), .d, .d, .d, .d, .d, .d, .d, .d], [(0, .grid ([Sh.int IntKind.i64, Sh.sl [Sh.int IntKind.i64, Sh.int IntKind.i64, Sh.int IntKind.i64, Sh.int IntKind.i64]]) x0)], 2, []⟩)
  | .inr v => (.ret, ⟨[.dead, .dead, .sv (.one (.val true (.bool false))), .dead, .dead, .dead, .dead, .dead, .dead, .dead, .dead, .dead, .dead, .dead, .dead, .dead], [(0, .grid ([Sh.int IntKind.i64, Sh.sl [Sh.int IntKind.i64, Sh.int IntKind.i64, Sh.int IntKind.i64, Sh.int IntKind.i64]]) x0)], 6, []⟩)
noncomputable def lli_L0_rd (ex : Ex) (s : St) : Option ((Int) ⊕ ((Int) ⊕ (Unit))) × List (Nat × Option Nat) := match ex with
  | .normal => (some (.inl (rI (frC s 7 0))), [])
  | .exit i => bif Nat.beq i 0 then (some (.inr (.inl (rI (frC s 7 0)))), []) else (none, [])
  | .ret => (some (.inr (.inr ())), [])
noncomputable def lli_L0_step (x0 : List (List Ct)) : (Int) → Option ((Int) ⊕ ((Int) ⊕ (Unit))) := fun v => match v with
  | vi0 => bif (decide (vi0 < (↑x0.length : Int))) then (bif (decide ((0 : Int) ≤ vi0 ∧ vi0 < (↑x0.length : Int))) then bif (decide ((↑(rd x0 vi0.toNat 1).rows.length : Int) > (40 : Int))) then (some (.inr (.inr ()))) else some (.inl (IntKind.i64.wrap (vi0 + (1 : Int)))) else none) else some (.inr (.inl vi0))
noncomputable def lli_L0_c : Code := loopC Try.prog 16 0
set_option maxRecDepth 100000 in
theorem lli_L0_ok (x0 : List (List Ct)) : ∀ v, StepOk Try.prog 1 lli_L0_c (lli_L0_S x0) (lli_L0_T x0) v (lli_L0_step x0 v) := fun v => match v with | vi0 => eng_step (C := (⟨consOrbit, fun _ _ _ => none, fun f => false, noFacts, fun _ => 0⟩ : Cfg Try.prog)) noFacts_ok (n := 30) (f := 16) lli_L0_rd (fun r => by cases r <;> rfl) (by kernel_rfl)
noncomputable def lli_L0_p (x0 : List (List Ct)) : Bool := (iter (lli_L0_step x0) (x0.length + 1) 0).isSome
noncomputable def lli_L0_v (x0 : List (List Ct)) : (Int) ⊕ (Unit) := (iter (lli_L0_step x0) (x0.length + 1) 0).getD (.inl default)
set_option maxRecDepth 100000 in
noncomputable def lli_L0_lc (x0 : List (List Ct)) : LoopCon Try.prog := loopCon2 Try.prog 1 lli_L0_c [] (lli_L0_S x0) (lli_L0_T x0) 0 (lli_L0_step x0) (lli_L0_ok x0) (x0.length + 1) 0 (lli_L0_p x0) rfl (lli_L0_v x0) rfl
noncomputable def lli_O (v : Bool) : Out := ⟨.sv (.one (.val false (.bool v))), [], 6, []⟩
noncomputable def lli_rd (out : Out) : Option (Bool) := some (rB (rvC out.v 0 0))
noncomputable def lli_res (x0 : List (List Ct)) : Option (Bool) := bif (lli_L0_p x0) then bif (isL (lli_L0_v x0)) then (some true) else some false else none
set_option maxRecDepth 100000 in
theorem lli_tree {x0 : List (List Ct)} {v : Bool} (h : lli_res x0 = some v) : CallOk Try.prog 16 [.sv (.one (.ext 0))] [(0, .grid [.int .i64, .sl [.int .i64, .int .i64, .int .i64, .int .i64]] x0)] 1 (lli_O v) :=
  eng_tree (C := (⟨consOrbit, fun f id nx => bif Nat.beq f 16 then (bif Nat.beq id 0 then some (lli_L0_lc x0) else none) else none, fun f => false, noFacts, fun _ => 0⟩ : Cfg Try.prog)) noFacts_ok (n := 30) (f := 16) lli_O lli_rd rfl (by kernel_rfl) h
noncomputable def lli_v (x0 : List (List Ct)) : Bool := (lli_res x0).getD default
theorem lli_spec (x0 : List (List Ct)) (h : ((lli_res x0).isSome) = true) : lli_res x0 = some (lli_v x0) := opt_get h
noncomputable def lli_m (args : List RV) (hp : Hp) : Option ((List (List Ct)) × List Nat) := match args with
  | [.sv (.one (.ext i0))] => (match gridAt hp i0 [.int .i64, .sl [.int .i64, .int .i64, .int .i64, .int .i64]] with
    | some x0 => some (x0, [i0])
    | _ => none)
  | _ => none
noncomputable def lli_con : Con Try.prog := conX Try.prog 16 lli_m 1 (fun x => [.sv (.one (.ext 0))]) (fun x => [(0, .grid [.int .i64, .sl [.int .i64, .int .i64, .int .i64, .int .i64]] x)]) (fun x => some ((lli_res x).isSome)) (fun x => lli_O (lli_v x))
  (by
    intro args hp x r h
    unfold lli_m at h
    split at h
    · split at h
      · rename_i g0
        cases h
        refine ⟨rfl, fun nx => ⟨rfl, ?_, ?_⟩⟩
        · intro i hi
          simp only [List.mem_cons, List.not_mem_nil, or_false] at hi
          rcases hi with rfl
          · exact ⟨_, List.mem_of_getElem? (i := 0) rfl, .inl (by simp [RV.ids, SV.ids, CV.ids])⟩
        · intro id o0 ho
          have := hlook_mem ho
          simp only [List.mem_cons, Prod.mk.injEq, List.not_mem_nil, or_false] at this
          rcases this with ⟨rfl, rfl⟩
          · exact ⟨_, gridAt_spec g0, rfl⟩
      · cases h
    · cases h)
  (fun x h => ⟨rfl, rfl, lli_tree (lli_spec x (h _ rfl))⟩)
noncomputable def consOrbit1 : List (Con Try.prog) := [trt_con.freeze, rrt_con.freeze, tky_con.freezeR.freezeO, tfr_con.freezeR.freezeO, rsa_con.freeze, lli_con.freeze] ++ consOrbit
end Go.Proofs.Ytmpaelkjooahoaa
