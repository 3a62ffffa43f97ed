/- Keys, what may be, places. No condition. -/
import Derived.Test.YtlcgjkljeggjhaaEngTrack
import Derived.Test.YtlcgjkljeggjhaaIter
set_option linter.unusedVariables false
set_option linter.unusedSimpArgs false
namespace Go.Proofs.Ytlcgjkljeggjhaa
open Go.RowKit

theorem opt_get {α : Type} [Inhabited α] {o : Option α} (h : o.isSome = true) : o = some (o.getD default) := by cases o with | none => cases h | some v => rfl

noncomputable def tky_L0_S (x0 : List (List Ct)) (v : Int × List (List Ct)) : St := ⟨[.sv (.one (.ext 0)), .dead, .sv (.one (.val true (Value.slice none 0 0))), .sv (.one (.ext 1)), .dead, .dead, .sv (.one (.ext 0)), .sv (.one (.val false (.int .i64 (↑x0.length : Int)))), .sv (.one (.val false (.int .i64 v.1))), .dead, .dead, .dead, .dead, .dead, .dead, .dead, .dead, .dead, .dead, .dead, .dead, .dead, .dead], [(0, .grid ([Sh.int IntKind.i64, Sh.int IntKind.i64, Sh.int IntKind.i64, Sh.int IntKind.i64]) x0), (1, .row ([[[Sh.int IntKind.i64], [Sh.int IntKind.i64], [Sh.int IntKind.i64]].reverse.flatten, [Sh.int IntKind.i64]].reverse.flatten) 44 v.2)], 2, []⟩
noncomputable def tky_L0_T (x0 : List (List Ct)) (v : Int × List (List Ct)) : Ex × St := ((.exit 0), ⟨[.sv (.one (.ext 0)), .dead, .sv (.one (.val true (Value.slice none 0 0))), .sv (.one (.ext 1)), .dead, .dead, .sv (.one (.ext 0)), .sv (.one (.val false (.int .i64 (↑x0.length : Int)))), .sv (.one (.val false (.int .i64 v.1))), .dead, .dead, .dead, .dead, .dead, .dead, .dead, .dead, .dead, .dead, .dead, .dead, .dead, .dead], [(0, .grid ([Sh.int IntKind.i64, Sh.int IntKind.i64, Sh.int IntKind.i64, Sh.int IntKind.i64]) x0), (1, .row ([[[Sh.int IntKind.i64], [Sh.int IntKind.i64], [Sh.int IntKind.i64]].reverse.flatten, [Sh.int IntKind.i64]].reverse.flatten) 44 v.2)], 3, []⟩)
noncomputable def tky_L0_rd (ex : Ex) (s : St) : Option ((Int × List (List Ct)) ⊕ (Int × List (List Ct))) × List (Nat × Option Nat) := match ex with
  | .normal => (some (.inl (rI (frC s 8 0), rL s (frC s 3 0))), [rnOf 1 (frC s 3 0)])
  | .exit i => bif Nat.beq i 0 then (some (.inr (rI (frC s 8 0), rL s (frC s 3 0))), [(1, some 1)]) else (none, [])
  | _ => (none, [])
noncomputable def tky_L0_step (x0 : List (List Ct)) : (Int × List (List Ct)) → Option ((Int × List (List Ct)) ⊕ (Int × List (List Ct))) := fun v => match v with
  | (vi0, vl0) => bif (decide (vi0 < (↑x0.length : Int))) then (bif (decide ((0 : Int) ≤ vi0 ∧ vi0 < (↑x0.length : Int))) then bif (decide (vl0.length + [[Ct.i (rd x0 vi0.toNat 0).int, Ct.i (rd x0 vi0.toNat 1).int, Ct.i (rd x0 vi0.toNat 2).int, Ct.i (rd x0 vi0.toNat 3).int]].length ≤ 9223372036854775807 ∧ (vl0.length + [[Ct.i (rd x0 vi0.toNat 0).int, Ct.i (rd x0 vi0.toNat 1).int, Ct.i (rd x0 vi0.toNat 2).int, Ct.i (rd x0 vi0.toNat 3).int]].length) * 32 ≤ 140737488355328)) then some (.inl (IntKind.i64.wrap (vi0 + (1 : Int)), vl0 ++ [[Ct.i (rd x0 vi0.toNat 0).int, Ct.i (rd x0 vi0.toNat 1).int, Ct.i (rd x0 vi0.toNat 2).int, Ct.i (rd x0 vi0.toNat 3).int]])) else none else none) else some (.inr (vi0, vl0))
noncomputable def tky_L0_c : Code := loopC Try.prog 15 0
set_option maxRecDepth 100000 in
theorem tky_L0_ok (x0 : List (List Ct)) : ∀ v, StepOk Try.prog 1 tky_L0_c (tky_L0_S x0) (tky_L0_T x0) v (tky_L0_step x0 v) := fun v => match v with | (vi0, vl0) => eng_step (C := (⟨consTrack, fun _ _ _ => none, fun f => false, noFacts, fun _ => 0⟩ : Cfg Try.prog)) noFacts_ok (n := 30) (f := 15) tky_L0_rd (fun _ => rfl) (by kernel_rfl)
noncomputable def tky_L0_p (x0 : List (List Ct)) : Bool := (iter (tky_L0_step x0) (x0.length + 1) (0, [])).isSome
noncomputable def tky_L0_v (x0 : List (List Ct)) : Int × List (List Ct) := loopRes (tky_L0_step x0) (x0.length + 1) (0, [])
noncomputable def tky_L0_lc (x0 : List (List Ct)) : LoopCon Try.prog := loopCon Try.prog 1 tky_L0_c [(1, none)] (tky_L0_S x0) (tky_L0_T x0) 0 (tky_L0_step x0) (tky_L0_ok x0) (x0.length + 1) (0, []) (tky_L0_p x0) rfl (tky_L0_v x0) rfl
noncomputable def tky_O (v : List (List Ct)) : Out := ⟨.sv (.one (.ext 1)), [(1, .row ([[[Sh.int IntKind.i64], [Sh.int IntKind.i64], [Sh.int IntKind.i64]].reverse.flatten, [Sh.int IntKind.i64]].reverse.flatten) 44 v)], 3, []⟩
noncomputable def tky_rd (out : Out) : Option (List (List Ct)) := some (hpL' out.up 1)
noncomputable def tky_res (x0 : List (List Ct)) : Option (List (List Ct)) := bif (tky_L0_p x0) then some ((tky_L0_v x0).snd) else none
set_option maxRecDepth 100000 in
theorem tky_tree {x0 : List (List Ct)} {v : List (List Ct)} (h : tky_res x0 = some v) : CallOk Try.prog 15 [.sv (.one (.ext 0))] [(0, .grid [.int .i64, .int .i64, .int .i64, .int .i64] x0)] 1 (tky_O v) :=
  eng_tree (C := (⟨consTrack, fun f id nx => bif Nat.beq f 15 then (bif Nat.beq id 0 then some (tky_L0_lc x0) else none) else none, fun f => false, noFacts, fun _ => 0⟩ : Cfg Try.prog)) noFacts_ok (n := 30) (f := 15) tky_O tky_rd rfl (by kernel_rfl) h
noncomputable def tky_v (x0 : List (List Ct)) : List (List Ct) := (tky_res x0).getD default
theorem tky_spec (x0 : List (List Ct)) (h : ((tky_res x0).isSome) = true) : tky_res x0 = some (tky_v x0) := opt_get h
noncomputable def tky_m (args : List RV) (hp : Hp) : Option ((List (List Ct)) × List Nat) := match args with
  | [.sv (.one (.ext i0))] => (match gridAt hp i0 [.int .i64, .int .i64, .int .i64, .int .i64] with
    | some x0 => some (x0, [i0])
    | _ => none)
  | _ => none
noncomputable def tky_con : Con Try.prog := conX Try.prog 15 tky_m 1 (fun x => [.sv (.one (.ext 0))]) (fun x => [(0, .grid [.int .i64, .int .i64, .int .i64, .int .i64] x)]) (fun x => some ((tky_res x).isSome)) (fun x => tky_O (tky_v x))
  (by
    intro args hp x r h
    unfold tky_m at h
    split at h
    · split at h
      · rename_i g0
        cases h
        refine ⟨rfl, fun nx => ⟨rfl, ?_, ?_⟩⟩
        · intro i hi
          simp only [List.mem_cons, List.not_mem_nil, or_false] at hi
          rcases hi with rfl
          · exact ⟨_, List.mem_of_getElem? (i := 0) rfl, .inl (by simp [RV.ids, SV.ids, CV.ids])⟩
        · intro id o0 ho
          have := hlook_mem ho
          simp only [List.mem_cons, Prod.mk.injEq, List.not_mem_nil, or_false] at this
          rcases this with ⟨rfl, rfl⟩
          · exact ⟨_, gridAt_spec g0, rfl⟩
      · cases h
    · cases h)
  (fun x h => ⟨rfl, rfl, tky_tree (tky_spec x (h _ rfl))⟩)

noncomputable def trt_L0_S (x0_0 : Int) (x0_1 : List (List Ct)) (v : Int) : St := ⟨[.sv (.agg [.val false (.int .i64 x0_0), .ext 0]), .sv (.one (.ptr 1 0)), .sv (.one (.val true (.bool false))), .dead, .dead, .dead, .dead, .sv (.one (.ptr 1 0)), .sv (.one (.val false (.int .i64 x0_0))), .sv (.one (.val false (.bool (decide (x0_0 < (0 : Int)))))), .sv (.one (.val true (.bool false))), .sv (.one (.ptr 1 0)), .sv (.one (.val false (.int .i64 x0_0))), .sv (.one (.val false (.bool (decide (x0_0 > (2 : Int)))))), .sv (.one (.val false (.bool (decide (x0_0 > (2 : Int)))))), .sv (.one (.val true (.bool false))), .sv (.one (.ptr 1 1)), .sv (.one (.ext 0)), .sv (.one (.val false (.int .i64 (↑x0_1.length : Int)))), .sv (.one (.val false (.bool (decide ((↑x0_1.length : Int) < (1 : Int)))))), .sv (.one (.val false (.bool (decide ((↑x0_1.length : Int) < (1 : Int)))))), .sv (.one (.val true (.bool false))), .sv (.one (.ptr 1 1)), .sv (.one (.ext 0)), .sv (.one (.val false (.int .i64 (↑x0_1.length : Int)))), .sv (.one (.val false (.bool (decide ((↑x0_1.length : Int) > (16 : Int)))))), .sv (.one (.val true (.bool false))), .sv (.one (.ptr 1 1)), .sv (.one (.ext 0)), .sv (.one (.val false (.int .i64 (↑x0_1.length : Int)))), .sv (.one (.val false (.int .i64 v))), .dead, .dead, .dead, .dead, .dead, .dead, .dead, .dead, .dead, .dead, .dead, .dead, .dead, .dead, .dead, .dead, .dead, .dead, .dead, .dead, .dead, .dead, .dead, .dead, .dead, .dead, .dead, .dead, .dead, .dead, .dead, .dead, .dead, .dead, .dead, .dead, .dead, .dead, .dead, .dead, .dead, .dead, .dead], [(0, .grid ([Sh.int IntKind.i64, Sh.int IntKind.i64, Sh.int IntKind.i64, Sh.int IntKind.i64]) x0_1), (1, .cells [.val false (.int .i64 x0_0), .ext 0] 28)], 6, []⟩
noncomputable def trt_L0_T (x0_0 : Int) (x0_1 : List (List Ct)) : (Int) ⊕ (Unit) → Ex × St
  | .inl v => ((.exit 0), ⟨[.sv (.agg [.val false (.int .i64 x0_0), .ext 0]), .sv (.one (.ptr 1 0)), .sv (.one (.val true (.bool false))), .dead, .dead, .dead, .dead, .sv (.one (.ptr 1 0)), .sv (.one (.val false (.int .i64 x0_0))), .sv (.one (.val false (.bool (decide (x0_0 < (0 : Int)))))), .sv (.one (.val true (.bool false))), .sv (.one (.ptr 1 0)), .sv (.one (.val false (.int .i64 x0_0))), .sv (.one (.val false (.bool (decide (x0_0 > (2 : Int)))))), .sv (.one (.val false (.bool (decide (x0_0 > (2 : Int)))))), .sv (.one (.val true (.bool false))), .sv (.one (.ptr 1 1)), .sv (.one (.ext 0)), .sv (.one (.val false (.int .i64 (↑x0_1.length : Int)))), .sv (.one (.val false (.bool (decide ((↑x0_1.length : Int) < (1 : Int)))))), .sv (.one (.val false (.bool (decide ((↑x0_1.length : Int) < (1 : Int)))))), .sv (.one (.val true (.bool false))), .sv (.one (.ptr 1 1)), .sv (.one (.ext 0)), .sv (.one (.val false (.int .i64 (↑x0_1.length : Int)))), .sv (.one (.val false (.bool (decide ((↑x0_1.length : Int) > (16 : Int)))))), .sv (.one (.val true (.bool false))), .sv (.one (.ptr 1 1)), .sv (.one (.ext 0)), .sv (.one (.val false (.int .i64 (↑x0_1.length : Int)))), .sv (.one (.val false (.int .i64 v))), .dead, .dead, .dead, .dead, .dead, .dead, .dead, .dead, .dead, .dead, .dead, .dead, .dead, .dead, .dead, .dead, .dead, .dead, .dead, .dead, .dead, .dead, .dead, .dead, .dead, .dead, .dead, .dead, .dead, .dead, .dead, .dead, .dead, .dead, .dead, .dead, .dead, .dead, .dead, .dead, .dead, .dead, .dead], [(0, .grid ([Sh.int IntKind.i64, Sh.int IntKind.i64, Sh.int IntKind.i64, Sh.int IntKind.i64]) x0_1), (1, .cells [.val false (.int .i64 x0_0), .ext 0] 28)], 7, []⟩)
  | .inr v => (.ret, ⟨[.dead, .dead, .sv (.one (.val true (.bool false))), .dead, .dead, .dead, .dead, .dead, .dead, .dead, .dead, .dead, .dead, .dead, .dead, .dead, .dead, .dead, .dead, .dead, .dead, .dead, .dead, .dead, .dead, .dead, .dead, .dead, .dead, .dead, .dead, .dead, .dead, .dead, .dead, .dead, .dead, .dead, .dead, .dead, .dead, .dead, .dead, .dead, .dead, .dead, .dead, .dead, .dead, .dead, .dead, .dead, .dead, .dead, .dead, .dead, .dead, .dead, .dead, .dead, .dead, .dead, .dead, .dead, .dead, .dead, .dead, .dead, .dead, .dead, .dead, .dead, .dead, .dead], [(0, .grid ([Sh.int IntKind.i64, Sh.int IntKind.i64, Sh.int IntKind.i64, Sh.int IntKind.i64]) x0_1)], 23, []⟩)
noncomputable def trt_L0_rd (ex : Ex) (s : St) : Option ((Int) ⊕ ((Int) ⊕ (Unit))) × List (Nat × Option Nat) := match ex with
  | .normal => (some (.inl (rI (frC s 30 0))), [(1, some 1)])
  | .exit i => bif Nat.beq i 0 then (some (.inr (.inl (rI (frC s 30 0)))), [(1, some 1)]) else (none, [])
  | .ret => (some (.inr (.inr ())), [])
noncomputable def trt_L0_step (x0_0 : Int) (x0_1 : List (List Ct)) : (Int) → Option ((Int) ⊕ ((Int) ⊕ (Unit))) := fun v => match v with
  | vi0 => bif (decide (vi0 < (↑x0_1.length : Int))) then (bif (decide ((0 : Int) ≤ vi0 ∧ vi0 < (↑x0_1.length : Int))) then bif (decide ((rd x0_1 vi0.toNat 0).int < (0 : Int))) then (some (.inr (.inr ()))) else bif (decide ((rd x0_1 vi0.toNat 0).int > (2097152 : Int))) then (some (.inr (.inr ()))) else bif (decide (vi0 > (0 : Int))) then (bif (decide ((0 : Int) ≤ IntKind.i64.wrap (vi0 - (1 : Int)) ∧ IntKind.i64.wrap (vi0 - (1 : Int)) < (↑x0_1.length : Int))) then bif (decide ((rd x0_1 (IntKind.i64.wrap (vi0 - (1 : Int))).toNat 0).int ≥ (rd x0_1 vi0.toNat 0).int)) then (some (.inr (.inr ()))) else bif (decide ((rd x0_1 vi0.toNat 1).int < (-2147483648 : Int))) then (some (.inr (.inr ()))) else bif (decide ((rd x0_1 vi0.toNat 1).int > (2147483648 : Int))) then (some (.inr (.inr ()))) else bif (decide ((rd x0_1 vi0.toNat 2).int < (-2147483648 : Int))) then (some (.inr (.inr ()))) else bif (decide ((rd x0_1 vi0.toNat 2).int > (2147483648 : Int))) then (some (.inr (.inr ()))) else bif (decide ((rd x0_1 vi0.toNat 3).int < (-2147483648 : Int))) then (some (.inr (.inr ()))) else bif (decide ((rd x0_1 vi0.toNat 3).int > (2147483648 : Int))) then (some (.inr (.inr ()))) else some (.inl (IntKind.i64.wrap (vi0 + (1 : Int)))) else none) else bif (decide ((rd x0_1 vi0.toNat 1).int < (-2147483648 : Int))) then (some (.inr (.inr ()))) else bif (decide ((rd x0_1 vi0.toNat 1).int > (2147483648 : Int))) then (some (.inr (.inr ()))) else bif (decide ((rd x0_1 vi0.toNat 2).int < (-2147483648 : Int))) then (some (.inr (.inr ()))) else bif (decide ((rd x0_1 vi0.toNat 2).int > (2147483648 : Int))) then (some (.inr (.inr ()))) else bif (decide ((rd x0_1 vi0.toNat 3).int < (-2147483648 : Int))) then (some (.inr (.inr ()))) else bif (decide ((rd x0_1 vi0.toNat 3).int > (2147483648 : Int))) then (some (.inr (.inr ()))) else some (.inl (IntKind.i64.wrap (vi0 + (1 : Int)))) else none) else some (.inr (.inl vi0))
noncomputable def trt_L0_c : Code := loopC Try.prog 7 0
set_option maxRecDepth 100000 in
theorem trt_L0_ok (x0_0 : Int) (x0_1 : List (List Ct)) : ∀ v, StepOk Try.prog 1 trt_L0_c (trt_L0_S x0_0 x0_1) (trt_L0_T x0_0 x0_1) v (trt_L0_step x0_0 x0_1 v) := fun v => match v with | vi0 => eng_step (C := (⟨consTrack, fun _ _ _ => none, fun f => false, noFacts, fun _ => 0⟩ : Cfg Try.prog)) noFacts_ok (n := 30) (f := 7) trt_L0_rd (fun r => by cases r <;> rfl) (by kernel_rfl)
noncomputable def trt_L0_p (x0_0 : Int) (x0_1 : List (List Ct)) : Bool := (iter (trt_L0_step x0_0 x0_1) (x0_1.length + 1) 0).isSome
noncomputable def trt_L0_v (x0_0 : Int) (x0_1 : List (List Ct)) : (Int) ⊕ (Unit) := (iter (trt_L0_step x0_0 x0_1) (x0_1.length + 1) 0).getD (.inl default)
noncomputable def trt_L0_lc (x0_0 : Int) (x0_1 : List (List Ct)) : LoopCon Try.prog := loopCon2 Try.prog 1 trt_L0_c [(1, some 1)] (trt_L0_S x0_0 x0_1) (trt_L0_T x0_0 x0_1) 0 (trt_L0_step x0_0 x0_1) (trt_L0_ok x0_0 x0_1) (x0_1.length + 1) 0 (trt_L0_p x0_0 x0_1) rfl (trt_L0_v x0_0 x0_1) rfl
noncomputable def trt_O (v : Bool) : Out := ⟨.sv (.one (.val false (.bool v))), [], 23, []⟩
noncomputable def trt_rd (out : Out) : Option (Bool) := some (rB (rvC out.v 0 0))
noncomputable def trt_res (x0_0 : Int) (x0_1 : List (List Ct)) : Option (Bool) := bif (decide (x0_0 < (0 : Int))) then (some false) else bif (decide (x0_0 > (2 : Int))) then (some false) else bif (decide ((↑x0_1.length : Int) < (1 : Int))) then (some false) else bif (decide ((↑x0_1.length : Int) > (16 : Int))) then (some false) else bif (trt_L0_p x0_0 x0_1) then bif (isL (trt_L0_v x0_0 x0_1)) then (some true) else some false else none
set_option maxRecDepth 100000 in
theorem trt_tree {x0_0 : Int} {x0_1 : List (List Ct)} {v : Bool} (h : trt_res x0_0 x0_1 = some v) : CallOk Try.prog 7 [.sv (.agg [.val false (.int .i64 x0_0), .ext 0])] [(0, .grid [.int .i64, .int .i64, .int .i64, .int .i64] x0_1)] 1 (trt_O v) :=
  eng_tree (C := (⟨consTrack, fun f id nx => bif Nat.beq f 7 then (bif Nat.beq id 0 then some (trt_L0_lc x0_0 x0_1) else none) else none, fun f => false, noFacts, fun _ => 0⟩ : Cfg Try.prog)) noFacts_ok (n := 30) (f := 7) trt_O trt_rd rfl (by kernel_rfl) h
noncomputable def trt_v (x0_0 : Int) (x0_1 : List (List Ct)) : Bool := (trt_res x0_0 x0_1).getD default
theorem trt_spec (x0_0 : Int) (x0_1 : List (List Ct)) (h : ((trt_res x0_0 x0_1).isSome) = true) : trt_res x0_0 x0_1 = some (trt_v x0_0 x0_1) := opt_get h
noncomputable def trt_m (args : List RV) (hp : Hp) : Option ((Int × List (List Ct)) × List Nat) := match args with
  | [.sv (.agg [.val _ (.int .i64 x0_0), .ext i0])] => (match gridAt hp i0 [.int .i64, .int .i64, .int .i64, .int .i64] with
    | some x0_1 => some ((x0_0, x0_1), [i0])
    | _ => none)
  | _ => none
noncomputable def trt_con : Con Try.prog := conX Try.prog 7 trt_m 1 (fun x => [.sv (.agg [.val false (.int .i64 x.1), .ext 0])]) (fun x => [(0, .grid [.int .i64, .int .i64, .int .i64, .int .i64] x.2)]) (fun x => some ((trt_res x.1 x.2).isSome)) (fun x => trt_O (trt_v x.1 x.2))
  (by
    intro args hp x r h
    unfold trt_m at h
    split at h
    · split at h
      · rename_i g0
        cases h
        refine ⟨rfl, fun nx => ⟨rfl, ?_, ?_⟩⟩
        · intro i hi
          simp only [List.mem_cons, List.not_mem_nil, or_false] at hi
          rcases hi with rfl
          · exact ⟨_, List.mem_of_getElem? (i := 0) rfl, .inl (by simp [RV.ids, SV.ids, CV.ids])⟩
        · intro id o0 ho
          have := hlook_mem ho
          simp only [List.mem_cons, Prod.mk.injEq, List.not_mem_nil, or_false] at this
          rcases this with ⟨rfl, rfl⟩
          · exact ⟨_, gridAt_spec g0, rfl⟩
      · cases h
    · cases h)
  (fun x h => ⟨rfl, rfl, trt_tree (trt_spec x.1 x.2 (h _ rfl))⟩)

noncomputable def rrt_L0_S (x0_0 : Int) (x0_1 : List (List Ct)) (v : Int) : St := ⟨[.sv (.agg [.val false (.int .i64 x0_0), .ext 0]), .sv (.one (.ptr 1 0)), .sv (.one (.val true (.bool false))), .sv (.one (.val false (.int .i64 v))), .dead, .dead, .sv (.one (.ptr 1 0)), .sv (.one (.val false (.int .i64 x0_0))), .sv (.one (.val false (.bool (decide (x0_0 < (0 : Int)))))), .sv (.one (.val true (.bool false))), .sv (.one (.ptr 1 0)), .sv (.one (.val false (.int .i64 x0_0))), .sv (.one (.val false (.bool (decide (x0_0 > (2 : Int)))))), .sv (.one (.val false (.bool (decide (x0_0 > (2 : Int)))))), .sv (.one (.val true (.bool false))), .sv (.one (.ptr 1 1)), .sv (.one (.ext 0)), .sv (.one (.val false (.int .i64 (↑x0_1.length : Int)))), .sv (.one (.val false (.bool (decide ((↑x0_1.length : Int) < (1 : Int)))))), .sv (.one (.val false (.bool (decide ((↑x0_1.length : Int) < (1 : Int)))))), .sv (.one (.val true (.bool false))), .sv (.one (.ptr 1 1)), .sv (.one (.ext 0)), .sv (.one (.val false (.int .i64 (↑x0_1.length : Int)))), .sv (.one (.val false (.bool (decide ((↑x0_1.length : Int) > (16 : Int)))))), .sv (.one (.val true (.bool false))), .dead, .dead, .dead, .dead, .dead, .dead, .dead, .dead, .dead, .dead, .dead, .dead, .dead, .dead, .dead, .dead, .dead, .dead, .dead, .dead, .dead, .dead, .dead, .dead, .dead, .dead, .dead, .dead, .dead, .dead, .dead, .dead, .dead, .dead, .dead, .dead, .dead, .dead, .dead, .dead, .dead, .dead, .dead, .dead, .dead, .dead, .dead, .dead, .dead, .dead], [(0, .grid ([Sh.int IntKind.i64, Sh.int IntKind.i64, Sh.int IntKind.i64, Sh.int IntKind.i64]) x0_1), (1, .cells [.val false (.int .i64 x0_0), .ext 0] 24)], 6, []⟩
noncomputable def rrt_L0_T (x0_0 : Int) (x0_1 : List (List Ct)) : (Int) ⊕ (Unit) → Ex × St
  | .inl v => ((.exit 0), ⟨[.sv (.agg [.val false (.int .i64 x0_0), .ext 0]), .sv (.one (.ptr 1 0)), .sv (.one (.val true (.bool false))), .sv (.one (.val false (.int .i64 v))), .dead, .dead, .sv (.one (.ptr 1 0)), .sv (.one (.val false (.int .i64 x0_0))), .sv (.one (.val false (.bool (decide (x0_0 < (0 : Int)))))), .sv (.one (.val true (.bool false))), .sv (.one (.ptr 1 0)), .sv (.one (.val false (.int .i64 x0_0))), .sv (.one (.val false (.bool (decide (x0_0 > (2 : Int)))))), .sv (.one (.val false (.bool (decide (x0_0 > (2 : Int)))))), .sv (.one (.val true (.bool false))), .sv (.one (.ptr 1 1)), .sv (.one (.ext 0)), .sv (.one (.val false (.int .i64 (↑x0_1.length : Int)))), .sv (.one (.val false (.bool (decide ((↑x0_1.length : Int) < (1 : Int)))))), .sv (.one (.val false (.bool (decide ((↑x0_1.length : Int) < (1 : Int)))))), .sv (.one (.val true (.bool false))), .sv (.one (.ptr 1 1)), .sv (.one (.ext 0)), .sv (.one (.val false (.int .i64 (↑x0_1.length : Int)))), .sv (.one (.val false (.bool (decide ((↑x0_1.length : Int) > (16 : Int)))))), .sv (.one (.val true (.bool false))), .dead, .dead, .dead, .dead, .dead, .dead, .dead, .dead, .dead, .dead, .dead, .dead, .dead, .dead, .dead, .dead, .dead, .dead, .dead, .dead, .dead, .dead, .dead, .dead, .dead, .dead, .dead, .dead, .dead, .dead, .dead, .dead, .dead, .dead, .dead, .dead, .dead, .dead, .dead, .dead, .dead, .dead, .dead, .dead, .dead, .dead, .dead, .dead, .dead, .dead], [(0, .grid ([Sh.int IntKind.i64, Sh.int IntKind.i64, Sh.int IntKind.i64, Sh.int IntKind.i64]) x0_1), (1, .cells [.val false (.int .i64 x0_0), .ext 0] 24)], 7, []⟩)
  | .inr v => (.ret, ⟨[.dead, .dead, .sv (.one (.val true (.bool false))), .dead, .dead, .dead, .dead, .dead, .dead, .dead, .dead, .dead, .dead, .dead, .dead, .dead, .dead, .dead, .dead, .dead, .dead, .dead, .dead, .dead, .dead, .dead, .dead, .dead, .dead, .dead, .dead, .dead, .dead, .dead, .dead, .dead, .dead, .dead, .dead, .dead, .dead, .dead, .dead, .dead, .dead, .dead, .dead, .dead, .dead, .dead, .dead, .dead, .dead, .dead, .dead, .dead, .dead, .dead, .dead, .dead, .dead, .dead, .dead, .dead, .dead, .dead, .dead, .dead, .dead, .dead, .dead, .dead, .dead, .dead, .dead, .dead], [(0, .grid ([Sh.int IntKind.i64, Sh.int IntKind.i64, Sh.int IntKind.i64, Sh.int IntKind.i64]) x0_1)], 17, []⟩)
noncomputable def rrt_L0_rd (ex : Ex) (s : St) : Option ((Int) ⊕ ((Int) ⊕ (Unit))) × List (Nat × Option Nat) := match ex with
  | .normal => (some (.inl (rI (frC s 3 0))), [(1, some 1)])
  | .exit i => bif Nat.beq i 0 then (some (.inr (.inl (rI (frC s 3 0)))), [(1, some 1)]) else (none, [])
  | .ret => (some (.inr (.inr ())), [])
noncomputable def rrt_L0_step (x0_0 : Int) (x0_1 : List (List Ct)) : (Int) → Option ((Int) ⊕ ((Int) ⊕ (Unit))) := fun v => match v with
  | vi0 => bif (decide (vi0 < (↑x0_1.length : Int))) then (bif (decide ((0 : Int) ≤ vi0 ∧ vi0 < (↑x0_1.length : Int))) then bif (decide ((rd x0_1 vi0.toNat 0).int < (0 : Int))) then (some (.inr (.inr ()))) else bif (decide ((rd x0_1 vi0.toNat 0).int > (2097152 : Int))) then (some (.inr (.inr ()))) else bif (decide (vi0 > (0 : Int))) then (bif (decide ((0 : Int) ≤ IntKind.i64.wrap (vi0 - (1 : Int)) ∧ IntKind.i64.wrap (vi0 - (1 : Int)) < (↑x0_1.length : Int))) then bif (decide ((rd x0_1 vi0.toNat 0).int ≤ (rd x0_1 (IntKind.i64.wrap (vi0 - (1 : Int))).toNat 0).int)) then (some (.inr (.inr ()))) else bif ((rd x0_1 vi0.toNat 1).int != heldS (rd x0_1 vi0.toNat 1).int) then (some (.inr (.inr ()))) else bif ((rd x0_1 vi0.toNat 2).int != heldS (rd x0_1 vi0.toNat 2).int) then (some (.inr (.inr ()))) else bif ((rd x0_1 vi0.toNat 3).int != heldS (rd x0_1 vi0.toNat 3).int) then (some (.inr (.inr ()))) else some (.inl (IntKind.i64.wrap (vi0 + (1 : Int)))) else none) else bif ((rd x0_1 vi0.toNat 1).int != heldS (rd x0_1 vi0.toNat 1).int) then (some (.inr (.inr ()))) else bif ((rd x0_1 vi0.toNat 2).int != heldS (rd x0_1 vi0.toNat 2).int) then (some (.inr (.inr ()))) else bif ((rd x0_1 vi0.toNat 3).int != heldS (rd x0_1 vi0.toNat 3).int) then (some (.inr (.inr ()))) else some (.inl (IntKind.i64.wrap (vi0 + (1 : Int)))) else none) else some (.inr (.inl vi0))
noncomputable def rrt_L0_c : Code := loopC Try.prog 8 0
set_option maxRecDepth 100000 in
theorem rrt_L0_ok (x0_0 : Int) (x0_1 : List (List Ct)) : ∀ v, StepOk Try.prog 1 rrt_L0_c (rrt_L0_S x0_0 x0_1) (rrt_L0_T x0_0 x0_1) v (rrt_L0_step x0_0 x0_1 v) := fun v => match v with | vi0 => eng_step (C := (⟨consTrack, fun _ _ _ => none, fun f => false, noFacts, fun _ => 0⟩ : Cfg Try.prog)) noFacts_ok (n := 30) (f := 8) rrt_L0_rd (fun r => by cases r <;> rfl) (by kernel_rfl)
noncomputable def rrt_L0_p (x0_0 : Int) (x0_1 : List (List Ct)) : Bool := (iter (rrt_L0_step x0_0 x0_1) (x0_1.length + 1) 0).isSome
noncomputable def rrt_L0_v (x0_0 : Int) (x0_1 : List (List Ct)) : (Int) ⊕ (Unit) := (iter (rrt_L0_step x0_0 x0_1) (x0_1.length + 1) 0).getD (.inl default)
noncomputable def rrt_L0_lc (x0_0 : Int) (x0_1 : List (List Ct)) : LoopCon Try.prog := loopCon2 Try.prog 1 rrt_L0_c [(1, some 1)] (rrt_L0_S x0_0 x0_1) (rrt_L0_T x0_0 x0_1) 0 (rrt_L0_step x0_0 x0_1) (rrt_L0_ok x0_0 x0_1) (x0_1.length + 1) 0 (rrt_L0_p x0_0 x0_1) rfl (rrt_L0_v x0_0 x0_1) rfl
noncomputable def rrt_O (v : Bool) : Out := ⟨.sv (.one (.val false (.bool v))), [], 17, []⟩
noncomputable def rrt_rd (out : Out) : Option (Bool) := some (rB (rvC out.v 0 0))
noncomputable def rrt_res (x0_0 : Int) (x0_1 : List (List Ct)) : Option (Bool) := bif (decide (x0_0 < (0 : Int))) then (some false) else bif (decide (x0_0 > (2 : Int))) then (some false) else bif (decide ((↑x0_1.length : Int) < (1 : Int))) then (some false) else bif (decide ((↑x0_1.length : Int) > (16 : Int))) then (some false) else bif (rrt_L0_p x0_0 x0_1) then bif (isL (rrt_L0_v x0_0 x0_1)) then (some true) else some false else none
set_option maxRecDepth 100000 in
theorem rrt_tree {x0_0 : Int} {x0_1 : List (List Ct)} {v : Bool} (h : rrt_res x0_0 x0_1 = some v) : CallOk Try.prog 8 [.sv (.agg [.val false (.int .i64 x0_0), .ext 0])] [(0, .grid [.int .i64, .int .i64, .int .i64, .int .i64] x0_1)] 1 (rrt_O v) :=
  eng_tree (C := (⟨consTrack, fun f id nx => bif Nat.beq f 8 then (bif Nat.beq id 0 then some (rrt_L0_lc x0_0 x0_1) else none) else none, fun f => false, noFacts, fun _ => 0⟩ : Cfg Try.prog)) noFacts_ok (n := 30) (f := 8) rrt_O rrt_rd rfl (by kernel_rfl) h
noncomputable def rrt_v (x0_0 : Int) (x0_1 : List (List Ct)) : Bool := (rrt_res x0_0 x0_1).getD default
theorem rrt_spec (x0_0 : Int) (x0_1 : List (List Ct)) (h : ((rrt_res x0_0 x0_1).isSome) = true) : rrt_res x0_0 x0_1 = some (rrt_v x0_0 x0_1) := opt_get h
noncomputable def rrt_m (args : List RV) (hp : Hp) : Option ((Int × List (List Ct)) × List Nat) := match args with
  | [.sv (.agg [.val _ (.int .i64 x0_0), .ext i0])] => (match gridAt hp i0 [.int .i64, .int .i64, .int .i64, .int .i64] with
    | some x0_1 => some ((x0_0, x0_1), [i0])
    | _ => none)
  | _ => none
noncomputable def rrt_con : Con Try.prog := conX Try.prog 8 rrt_m 1 (fun x => [.sv (.agg [.val false (.int .i64 x.1), .ext 0])]) (fun x => [(0, .grid [.int .i64, .int .i64, .int .i64, .int .i64] x.2)]) (fun x => some ((rrt_res x.1 x.2).isSome)) (fun x => rrt_O (rrt_v x.1 x.2))
  (by
    intro args hp x r h
    unfold rrt_m at h
    split at h
    · split at h
      · rename_i g0
        cases h
        refine ⟨rfl, fun nx => ⟨rfl, ?_, ?_⟩⟩
        · intro i hi
          simp only [List.mem_cons, List.not_mem_nil, or_false] at hi
          rcases hi with rfl
          · exact ⟨_, List.mem_of_getElem? (i := 0) rfl, .inl (by simp [RV.ids, SV.ids, CV.ids])⟩
        · intro id o0 ho
          have := hlook_mem ho
          simp only [List.mem_cons, Prod.mk.injEq, List.not_mem_nil, or_false] at this
          rcases this with ⟨rfl, rfl⟩
          · exact ⟨_, gridAt_spec g0, rfl⟩
      · cases h
    · cases h)
  (fun x h => ⟨rfl, rfl, rrt_tree (rrt_spec x.1 x.2 (h _ rfl))⟩)

noncomputable def rpl_L0_S (x0_0 : Int) (x0_1 : List (List Ct)) (x1 : Int) (v : Int × Int) : St := ⟨[.sv (.agg [.val false (.int .i64 x0_0), .ext 0]), .sv (.one (.val false (.int .i64 x1))), .sv (.one (.ptr 1 0)), .dead, .sv (.one (.val true (.int .i64 0))), .sv (.one (.val false (.int .i64 v.1))), .sv (.one (.val false (.int .i64 v.2))), .dead, .dead, .dead, .dead, .dead, .dead, .dead, .dead, .dead, .dead, .dead, .dead, .dead, .dead, .dead, .dead, .dead], [(0, .grid ([Sh.int IntKind.i64, Sh.int IntKind.i64, Sh.int IntKind.i64, Sh.int IntKind.i64]) x0_1), (1, .cells [.val false (.int .i64 x0_0), .ext 0] 24)], 2, []⟩
noncomputable def rpl_L0_T (x0_0 : Int) (x0_1 : List (List Ct)) (x1 : Int) (v : Int × Int) : Ex × St := ((.exit 0), ⟨[.sv (.agg [.val false (.int .i64 x0_0), .ext 0]), .sv (.one (.val false (.int .i64 x1))), .sv (.one (.ptr 1 0)), .dead, .sv (.one (.val true (.int .i64 0))), .sv (.one (.val false (.int .i64 v.1))), .sv (.one (.val false (.int .i64 v.2))), .dead, .dead, .dead, .dead, .dead, .dead, .dead, .dead, .dead, .dead, .dead, .dead, .dead, .dead, .dead, .dead, .dead], [(0, .grid ([Sh.int IntKind.i64, Sh.int IntKind.i64, Sh.int IntKind.i64, Sh.int IntKind.i64]) x0_1), (1, .cells [.val false (.int .i64 x0_0), .ext 0] 24)], 3, []⟩)
noncomputable def rpl_L0_rd (ex : Ex) (s : St) : Option ((Int × Int) ⊕ (Int × Int)) × List (Nat × Option Nat) := match ex with
  | .normal => (some (.inl (rI (frC s 5 0), rI (frC s 6 0))), [(1, some 1)])
  | .exit i => bif Nat.beq i 0 then (some (.inr (rI (frC s 5 0), rI (frC s 6 0))), [(1, some 1)]) else (none, [])
  | _ => (none, [])
noncomputable def rpl_L0_step (x0_0 : Int) (x0_1 : List (List Ct)) (x1 : Int) : (Int × Int) → Option ((Int × Int) ⊕ (Int × Int)) := fun v => match v with
  | (vi0, vi1) => bif (decide (vi1 < (↑x0_1.length : Int))) then (bif (decide ((0 : Int) ≤ vi1 ∧ vi1 < (↑x0_1.length : Int))) then some (.inl (bif decide ((rd x0_1 vi1.toNat 0).int ≤ x1) then vi1 else vi0, IntKind.i64.wrap (vi1 + (1 : Int)))) else none) else some (.inr (vi0, vi1))
noncomputable def rpl_L0_c : Code := loopC Try.prog 10 0
set_option maxRecDepth 100000 in
theorem rpl_L0_ok (x0_0 : Int) (x0_1 : List (List Ct)) (x1 : Int) : ∀ v, StepOk Try.prog 1 rpl_L0_c (rpl_L0_S x0_0 x0_1 x1) (rpl_L0_T x0_0 x0_1 x1) v (rpl_L0_step x0_0 x0_1 x1 v) := fun v => match v with | (vi0, vi1) => eng_step (C := (⟨consTrack, fun _ _ _ => none, fun f => false, noFacts, fun _ => 4⟩ : Cfg Try.prog)) noFacts_ok (n := 30) (f := 10) rpl_L0_rd (fun _ => rfl) (by kernel_rfl)
noncomputable def rpl_L0_p (x0_0 : Int) (x0_1 : List (List Ct)) (x1 : Int) : Bool := (iter (rpl_L0_step x0_0 x0_1 x1) (x0_1.length + 1) ((-1), 0)).isSome
noncomputable def rpl_L0_v (x0_0 : Int) (x0_1 : List (List Ct)) (x1 : Int) : Int × Int := loopRes (rpl_L0_step x0_0 x0_1 x1) (x0_1.length + 1) ((-1), 0)
noncomputable def rpl_L0_lc (x0_0 : Int) (x0_1 : List (List Ct)) (x1 : Int) : LoopCon Try.prog := loopCon Try.prog 1 rpl_L0_c [(1, some 1)] (rpl_L0_S x0_0 x0_1 x1) (rpl_L0_T x0_0 x0_1 x1) 0 (rpl_L0_step x0_0 x0_1 x1) (rpl_L0_ok x0_0 x0_1 x1) (x0_1.length + 1) ((-1), 0) (rpl_L0_p x0_0 x0_1 x1) rfl (rpl_L0_v x0_0 x0_1 x1) rfl
noncomputable def rpl_O (v : Int) : Out := ⟨.sv (.one (.val false (.int .i64 v))), [], 3, []⟩
noncomputable def rpl_rd (out : Out) : Option (Int) := some (rI (rvC out.v 0 0))
noncomputable def rpl_res (x0_0 : Int) (x0_1 : List (List Ct)) (x1 : Int) : Option (Int) := bif (rpl_L0_p x0_0 x0_1 x1) then some ((rpl_L0_v x0_0 x0_1 x1).fst) else none
set_option maxRecDepth 100000 in
theorem rpl_tree {x0_0 : Int} {x0_1 : List (List Ct)} {x1 : Int} {v : Int} (h : rpl_res x0_0 x0_1 x1 = some v) : CallOk Try.prog 10 [.sv (.agg [.val false (.int .i64 x0_0), .ext 0]), .sv (.one (.val false (.int .i64 x1)))] [(0, .grid [.int .i64, .int .i64, .int .i64, .int .i64] x0_1)] 1 (rpl_O v) :=
  eng_tree (C := (⟨consTrack, fun f id nx => bif Nat.beq f 10 then (bif Nat.beq id 0 then some (rpl_L0_lc x0_0 x0_1 x1) else none) else none, fun f => false, noFacts, fun _ => 4⟩ : Cfg Try.prog)) noFacts_ok (n := 30) (f := 10) rpl_O rpl_rd rfl (by kernel_rfl) h
noncomputable def rpl_v (x0_0 : Int) (x0_1 : List (List Ct)) (x1 : Int) : Int := (rpl_res x0_0 x0_1 x1).getD default
theorem rpl_spec (x0_0 : Int) (x0_1 : List (List Ct)) (x1 : Int) (h : ((rpl_res x0_0 x0_1 x1).isSome) = true) : rpl_res x0_0 x0_1 x1 = some (rpl_v x0_0 x0_1 x1) := opt_get h
noncomputable def rpl_m (args : List RV) (hp : Hp) : Option ((Int × List (List Ct) × Int) × List Nat) := match args with
  | [.sv (.agg [.val _ (.int .i64 x0_0), .ext i0]), .sv (.one (.val _ (.int .i64 x1)))] => (match gridAt hp i0 [.int .i64, .int .i64, .int .i64, .int .i64] with
    | some x0_1 => some ((x0_0, x0_1, x1), [i0])
    | _ => none)
  | _ => none
noncomputable def rpl_con : Con Try.prog := conX Try.prog 10 rpl_m 1 (fun x => [.sv (.agg [.val false (.int .i64 x.1), .ext 0]), .sv (.one (.val false (.int .i64 x.2.2)))]) (fun x => [(0, .grid [.int .i64, .int .i64, .int .i64, .int .i64] x.2.1)]) (fun x => some ((rpl_res x.1 x.2.1 x.2.2).isSome)) (fun x => rpl_O (rpl_v x.1 x.2.1 x.2.2))
  (by
    intro args hp x r h
    unfold rpl_m at h
    split at h
    · split at h
      · rename_i g0
        cases h
        refine ⟨rfl, fun nx => ⟨rfl, ?_, ?_⟩⟩
        · intro i hi
          simp only [List.mem_cons, List.not_mem_nil, or_false] at hi
          rcases hi with rfl
          · exact ⟨_, List.mem_of_getElem? (i := 0) rfl, .inl (by simp [RV.ids, SV.ids, CV.ids])⟩
        · intro id o0 ho
          have := hlook_mem ho
          simp only [List.mem_cons, Prod.mk.injEq, List.not_mem_nil, or_false] at this
          rcases this with ⟨rfl, rfl⟩
          · exact ⟨_, gridAt_spec g0, rfl⟩
      · cases h
    · cases h)
  (fun x h => ⟨rfl, rfl, rpl_tree (rpl_spec x.1 x.2.1 x.2.2 (h _ rfl))⟩)

noncomputable def bsf_L0_S (x0 : List (List Ct)) (x1 : Int) (v : Int × Int) : St := ⟨[.sv (.one (.ext 0)), .sv (.one (.val false (.int .i64 x1))), .sv (.one (CV.fn (19 : FuncId) [])), .dead, .dead, .dead, .sv (.one (.val true (.int .i64 0))), .sv (.one (.val true (.bool false))), .sv (.one (.val false (.int .i64 (↑x0.length : Int)))), .sv (.one (.val false (.int .i64 v.1))), .sv (.one (.val false (.int .i64 v.2))), .dead, .sv (.one (.ext 0)), .sv (.one (.val false (.int .i64 (↑x0.length : Int)))), .sv (.one (.val false (.int .i64 (↑x0.length : Int)))), .dead, .dead, .dead, .dead, .dead, .dead, .dead, .dead, .dead, .dead, .dead, .dead, .dead, .dead, .dead, .dead, .dead, .dead, .dead, .dead, .dead, .dead, .dead, .dead, .dead, .dead, .dead, .dead, .dead, .dead, .dead, .dead, .dead, .dead], [(0, .grid ([Sh.int IntKind.i64, Sh.int IntKind.i64, Sh.int IntKind.i64, Sh.int IntKind.i64]) x0)], 1, []⟩
noncomputable def bsf_L0_T (x0 : List (List Ct)) (x1 : Int) (v : Int × Int) : Ex × St := ((.exit 0), ⟨[.sv (.one (.ext 0)), .sv (.one (.val false (.int .i64 x1))), .sv (.one (CV.fn (19 : FuncId) [])), .dead, .dead, .dead, .sv (.one (.val true (.int .i64 0))), .sv (.one (.val true (.bool false))), .sv (.one (.val false (.int .i64 (↑x0.length : Int)))), .sv (.one (.val false (.int .i64 v.1))), .sv (.one (.val false (.int .i64 v.2))), .dead, .sv (.one (.ext 0)), .sv (.one (.val false (.int .i64 (↑x0.length : Int)))), .sv (.one (.val false (.int .i64 (↑x0.length : Int)))), .dead, .dead, .dead, .dead, .dead, .dead, .dead, .dead, .dead, .dead, .dead, .dead, .dead, .dead, .dead, .dead, .dead, .dead, .dead, .dead, .dead, .dead, .dead, .dead, .dead, .dead, .dead, .dead, .dead, .dead, .dead, .dead, .dead, .dead], [(0, .grid ([Sh.int IntKind.i64, Sh.int IntKind.i64, Sh.int IntKind.i64, Sh.int IntKind.i64]) x0)], 2, []⟩)
noncomputable def bsf_L0_rd (ex : Ex) (s : St) : Option ((Int × Int) ⊕ (Int × Int)) × List (Nat × Option Nat) := match ex with
  | .normal => (some (.inl (rI (frC s 9 0), rI (frC s 10 0))), [])
  | .exit i => bif Nat.beq i 0 then (some (.inr (rI (frC s 9 0), rI (frC s 10 0))), []) else (none, [])
  | _ => (none, [])
noncomputable def bsf_L0_step (x0 : List (List Ct)) (x1 : Int) : (Int × Int) → Option ((Int × Int) ⊕ (Int × Int)) := fun v => match v with
  | (vi0, vi1) => bif (decide (vi0 < vi1)) then (bif (decide ((0 : Int) ≤ IntKind.i64.wrap ((IntKind.u64.wrap (IntKind.i64.wrap (vi0 + vi1))).fdiv ((2 : Int) ^ min (Int.toNat (1 : Int)) IntKind.u64.bits)) ∧ IntKind.i64.wrap ((IntKind.u64.wrap (IntKind.i64.wrap (vi0 + vi1))).fdiv ((2 : Int) ^ min (Int.toNat (1 : Int)) IntKind.u64.bits)) < (↑x0.length : Int))) then bif (decide ((rd x0 (IntKind.i64.wrap ((IntKind.u64.wrap (IntKind.i64.wrap (vi0 + vi1))).fdiv ((2 : Int) ^ min (Int.toNat (1 : Int)) IntKind.u64.bits))).toNat 0).int < x1)) then (some (.inl (IntKind.i64.wrap (IntKind.i64.wrap ((IntKind.u64.wrap (IntKind.i64.wrap (vi0 + vi1))).fdiv ((2 : Int) ^ min (Int.toNat (1 : Int)) IntKind.u64.bits)) + (1 : Int)), vi1))) else bif (decide ((rd x0 (IntKind.i64.wrap ((IntKind.u64.wrap (IntKind.i64.wrap (vi0 + vi1))).fdiv ((2 : Int) ^ min (Int.toNat (1 : Int)) IntKind.u64.bits))).toNat 0).int > x1)) then (some (.inl (vi0, IntKind.i64.wrap ((IntKind.u64.wrap (IntKind.i64.wrap (vi0 + vi1))).fdiv ((2 : Int) ^ min (Int.toNat (1 : Int)) IntKind.u64.bits))))) else some (.inl (vi0, IntKind.i64.wrap ((IntKind.u64.wrap (IntKind.i64.wrap (vi0 + vi1))).fdiv ((2 : Int) ^ min (Int.toNat (1 : Int)) IntKind.u64.bits)))) else none) else some (.inr (vi0, vi1))
noncomputable def bsf_L0_c : Code := loopC Try.prog 18 0
set_option maxRecDepth 100000 in
theorem bsf_L0_ok (x0 : List (List Ct)) (x1 : Int) : ∀ v, StepOk Try.prog 1 bsf_L0_c (bsf_L0_S x0 x1) (bsf_L0_T x0 x1) v (bsf_L0_step x0 x1 v) := fun v => match v with | (vi0, vi1) => eng_step (C := (⟨consTrack, fun _ _ _ => none, fun f => false, noFacts, fun _ => 0⟩ : Cfg Try.prog)) noFacts_ok (n := 30) (f := 18) bsf_L0_rd (fun _ => rfl) (by kernel_rfl)
noncomputable def bsf_L0_p (x0 : List (List Ct)) (x1 : Int) : Bool := (iter (bsf_L0_step x0 x1) (x0.length + 1) (0, (↑x0.length : Int))).isSome
noncomputable def bsf_L0_v (x0 : List (List Ct)) (x1 : Int) : Int × Int := loopRes (bsf_L0_step x0 x1) (x0.length + 1) (0, (↑x0.length : Int))
noncomputable def bsf_L0_lc (x0 : List (List Ct)) (x1 : Int) : LoopCon Try.prog := loopCon Try.prog 1 bsf_L0_c [] (bsf_L0_S x0 x1) (bsf_L0_T x0 x1) 0 (bsf_L0_step x0 x1) (bsf_L0_ok x0 x1) (x0.length + 1) (0, (↑x0.length : Int)) (bsf_L0_p x0 x1) rfl (bsf_L0_v x0 x1) rfl
noncomputable def bsf_O (v : Int × Bool) : Out := ⟨.tup [.one (.val false (.int .i64 v.1)), .one (.val false (.bool v.2))], [], 7, []⟩
noncomputable def bsf_rd (out : Out) : Option (Int × Bool) := some (rI (rvC out.v 0 0), rB (rvC out.v 1 0))
noncomputable def bsf_res (x0 : List (List Ct)) (x1 : Int) : Option (Int × Bool) := bif (bsf_L0_p x0 x1) then bif (decide ((bsf_L0_v x0 x1).fst < (↑x0.length : Int))) then (bif (decide ((0 : Int) ≤ (bsf_L0_v x0 x1).fst ∧ (bsf_L0_v x0 x1).fst < (↑x0.length : Int))) then bif (decide ((rd x0 (bsf_L0_v x0 x1).fst.toNat 0).int < x1)) then (some ((bsf_L0_v x0 x1).fst, false)) else bif (decide ((rd x0 (bsf_L0_v x0 x1).fst.toNat 0).int > x1)) then (some ((bsf_L0_v x0 x1).fst, false)) else some ((bsf_L0_v x0 x1).fst, true) else none) else some ((bsf_L0_v x0 x1).fst, false) else none
set_option maxRecDepth 100000 in
theorem bsf_tree {x0 : List (List Ct)} {x1 : Int} {v : Int × Bool} (h : bsf_res x0 x1 = some v) : CallOk Try.prog 18 [.sv (.one (.ext 0)), .sv (.one (.val false (.int .i64 x1))), .sv (.one (.fn 19 []))] [(0, .grid [.int .i64, .int .i64, .int .i64, .int .i64] x0)] 1 (bsf_O v) :=
  eng_tree (C := (⟨consTrack, fun f id nx => bif Nat.beq f 18 then (bif Nat.beq id 0 then some (bsf_L0_lc x0 x1) else none) else none, fun f => false, noFacts, fun _ => 0⟩ : Cfg Try.prog)) noFacts_ok (n := 30) (f := 18) bsf_O bsf_rd rfl (by kernel_rfl) h
noncomputable def bsf_v (x0 : List (List Ct)) (x1 : Int) : Int × Bool := (bsf_res x0 x1).getD default
theorem bsf_spec (x0 : List (List Ct)) (x1 : Int) (h : ((bsf_res x0 x1).isSome) = true) : bsf_res x0 x1 = some (bsf_v x0 x1) := opt_get h
noncomputable def bsf_as : List ASh := [.one (.grid [.int .i64, .int .i64, .int .i64, .int .i64]), .one (.int .i64), .one (.fn 19)]
noncomputable def bsf_con : Con Try.prog := conS Try.prog 18 bsf_as (fun x => some ((bsf_res (x.getD 0 (.i 0)).rows (x.getD 1 (.i 0)).int).isSome)) (fun x => bsf_O (bsf_v (x.getD 0 (.i 0)).rows (x.getD 1 (.i 0)).int))
  (fun x h => ⟨by kernel_rfl, by kernel_rfl, Eq.mp (by kernel_rfl) (bsf_tree (bsf_spec ((x.getD 0 (.i 0)).rows) ((x.getD 1 (.i 0)).int) (h _ rfl)))⟩)
noncomputable def consTrack1 : List (Con Try.prog) := [tky_con.freezeR.freezeO, trt_con, rrt_con, rpl_con, bsf_con] ++ consTrack
end Go.Proofs.Ytlcgjkljeggjhaa
