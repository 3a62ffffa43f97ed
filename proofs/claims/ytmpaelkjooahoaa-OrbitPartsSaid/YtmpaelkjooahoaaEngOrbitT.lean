/- The value at a time. No condition. -/
import Derived.Test.YtmpaelkjooahoaaEngOrbitQ
set_option linter.unusedVariables false
set_option linter.unusedSimpArgs false
namespace Go.Proofs.Ytmpaelkjooahoaa
open Go.RowKit

noncomputable def tat_O (v : Int × Int × Int) : Out := ⟨.sv (.agg [.val false (.int .i64 v.1), .val false (.int .i64 v.2.1), .val false (.int .i64 v.2.2)]), [], 42, []⟩
noncomputable def tat_rd (out : Out) : Option (Int × Int × Int) := some (rI (rvC out.v 0 0), rI (rvC out.v 0 1), rI (rvC out.v 0 2))
noncomputable def tat_res (x0_0 : Int) (x0_1 : List (List Ct)) (x1 : Int) : Option (Int × Int × Int) := bif ((trt_res x0_0 x0_1).isSome) then bif (!trt_v x0_0 x0_1) then (some (0, 0, 0)) else bif ((tpl_res x0_1 x1).isSome) then bif (decide (tpl_v x0_1 x1 < (0 : Int))) then (bif (decide ((0 : Int) ≤ (0 : Int) ∧ (0 : Int) < (↑x0_1.length : Int))) then some ((rd x0_1 (Int.toNat (0 : Int)) 1).int, (rd x0_1 (Int.toNat (0 : Int)) 2).int, (rd x0_1 (Int.toNat (0 : Int)) 3).int) else none) else bif (tpl_v x0_1 x1 == IntKind.i64.wrap ((↑x0_1.length : Int) - (1 : Int))) then (bif (decide ((0 : Int) ≤ tpl_v x0_1 x1 ∧ tpl_v x0_1 x1 < (↑x0_1.length : Int))) then some ((rd x0_1 (tpl_v x0_1 x1).toNat 1).int, (rd x0_1 (tpl_v x0_1 x1).toNat 2).int, (rd x0_1 (tpl_v x0_1 x1).toNat 3).int) else none) else bif (x0_0 == (0 : Int)) then (bif (decide ((0 : Int) ≤ tpl_v x0_1 x1 ∧ tpl_v x0_1 x1 < (↑x0_1.length : Int))) then some ((rd x0_1 (tpl_v x0_1 x1).toNat 1).int, (rd x0_1 (tpl_v x0_1 x1).toNat 2).int, (rd x0_1 (tpl_v x0_1 x1).toNat 3).int) else none) else bif (decide ((0 : Int) ≤ tpl_v x0_1 x1 ∧ tpl_v x0_1 x1 < (↑x0_1.length : Int))) then bif (decide ((0 : Int) ≤ IntKind.i64.wrap (tpl_v x0_1 x1 + (1 : Int)) ∧ IntKind.i64.wrap (tpl_v x0_1 x1 + (1 : Int)) < (↑x0_1.length : Int))) then bif (x0_0 == (2 : Int)) then (some (lerpS (rd x0_1 (tpl_v x0_1 x1).toNat 1).int (rd x0_1 (IntKind.i64.wrap (tpl_v x0_1 x1 + (1 : Int))).toNat 1).int (easeS (divS (IntKind.i64.wrap (x1 - (rd x0_1 (tpl_v x0_1 x1).toNat 0).int)) (IntKind.i64.wrap ((rd x0_1 (IntKind.i64.wrap (tpl_v x0_1 x1 + (1 : Int))).toNat 0).int - (rd x0_1 (tpl_v x0_1 x1).toNat 0).int)))), lerpS (rd x0_1 (tpl_v x0_1 x1).toNat 2).int (rd x0_1 (IntKind.i64.wrap (tpl_v x0_1 x1 + (1 : Int))).toNat 2).int (easeS (divS (IntKind.i64.wrap (x1 - (rd x0_1 (tpl_v x0_1 x1).toNat 0).int)) (IntKind.i64.wrap ((rd x0_1 (IntKind.i64.wrap (tpl_v x0_1 x1 + (1 : Int))).toNat 0).int - (rd x0_1 (tpl_v x0_1 x1).toNat 0).int)))), lerpS (rd x0_1 (tpl_v x0_1 x1).toNat 3).int (rd x0_1 (IntKind.i64.wrap (tpl_v x0_1 x1 + (1 : Int))).toNat 3).int (easeS (divS (IntKind.i64.wrap (x1 - (rd x0_1 (tpl_v x0_1 x1).toNat 0).int)) (IntKind.i64.wrap ((rd x0_1 (IntKind.i64.wrap (tpl_v x0_1 x1 + (1 : Int))).toNat 0).int - (rd x0_1 (tpl_v x0_1 x1).toNat 0).int)))))) else some (lerpS (rd x0_1 (tpl_v x0_1 x1).toNat 1).int (rd x0_1 (IntKind.i64.wrap (tpl_v x0_1 x1 + (1 : Int))).toNat 1).int (divS (IntKind.i64.wrap (x1 - (rd x0_1 (tpl_v x0_1 x1).toNat 0).int)) (IntKind.i64.wrap ((rd x0_1 (IntKind.i64.wrap (tpl_v x0_1 x1 + (1 : Int))).toNat 0).int - (rd x0_1 (tpl_v x0_1 x1).toNat 0).int))), lerpS (rd x0_1 (tpl_v x0_1 x1).toNat 2).int (rd x0_1 (IntKind.i64.wrap (tpl_v x0_1 x1 + (1 : Int))).toNat 2).int (divS (IntKind.i64.wrap (x1 - (rd x0_1 (tpl_v x0_1 x1).toNat 0).int)) (IntKind.i64.wrap ((rd x0_1 (IntKind.i64.wrap (tpl_v x0_1 x1 + (1 : Int))).toNat 0).int - (rd x0_1 (tpl_v x0_1 x1).toNat 0).int))), lerpS (rd x0_1 (tpl_v x0_1 x1).toNat 3).int (rd x0_1 (IntKind.i64.wrap (tpl_v x0_1 x1 + (1 : Int))).toNat 3).int (divS (IntKind.i64.wrap (x1 - (rd x0_1 (tpl_v x0_1 x1).toNat 0).int)) (IntKind.i64.wrap ((rd x0_1 (IntKind.i64.wrap (tpl_v x0_1 x1 + (1 : Int))).toNat 0).int - (rd x0_1 (tpl_v x0_1 x1).toNat 0).int)))) else none else none else none else none
set_option maxRecDepth 100000 in
theorem tat_tree {x0_0 : Int} {x0_1 : List (List Ct)} {x1 : Int} {v : Int × Int × Int} (h : tat_res x0_0 x0_1 x1 = some v) : CallOk Try.prog 67 [.sv (.agg [.val false (.int .i64 x0_0), .ext 0]), .sv (.one (.val false (.int .i64 x1)))] [(0, .grid [.int .i64, .int .i64, .int .i64, .int .i64] x0_1)] 1 (tat_O v) :=
  eng_tree (C := (⟨consOrbitQ, fun _ _ _ => none, fun f => false, noFacts, fun _ => 0⟩ : Cfg Try.prog)) noFacts_ok (n := 30) (f := 67) tat_O tat_rd rfl (by kernel_rfl) h
noncomputable def tat_v (x0_0 : Int) (x0_1 : List (List Ct)) (x1 : Int) : Int × Int × Int := (tat_res x0_0 x0_1 x1).getD default
theorem tat_spec (x0_0 : Int) (x0_1 : List (List Ct)) (x1 : Int) (h : ((tat_res x0_0 x0_1 x1).isSome) = true) : tat_res x0_0 x0_1 x1 = some (tat_v x0_0 x0_1 x1) := opt_get h
noncomputable def tat_m (args : List RV) (hp : Hp) : Option ((Int × List (List Ct) × Int) × List Nat) := match args with
  | [.sv (.agg [.val _ (.int .i64 x0_0), .ext i0]), .sv (.one (.val _ (.int .i64 x1)))] => (match gridAt hp i0 [.int .i64, .int .i64, .int .i64, .int .i64] with
    | some x0_1 => some ((x0_0, x0_1, x1), [i0])
    | _ => none)
  | _ => none
noncomputable def tat_con : Con Try.prog := conX Try.prog 67 tat_m 1 (fun x => [.sv (.agg [.val false (.int .i64 x.1), .ext 0]), .sv (.one (.val false (.int .i64 x.2.2)))]) (fun x => [(0, .grid [.int .i64, .int .i64, .int .i64, .int .i64] x.2.1)]) (fun x => some ((tat_res x.1 x.2.1 x.2.2).isSome)) (fun x => tat_O (tat_v x.1 x.2.1 x.2.2))
  (by
    intro args hp x r h
    unfold tat_m at h
    split at h
    · split at h
      · rename_i g0
        cases h
        refine ⟨rfl, fun nx => ⟨rfl, ?_, ?_⟩⟩
        · intro i hi
          simp only [List.mem_cons, List.not_mem_nil, or_false] at hi
          rcases hi with rfl
          · exact ⟨_, List.mem_of_getElem? (i := 0) rfl, .inl (by simp [RV.ids, SV.ids, CV.ids])⟩
        · intro id o0 ho
          have := hlook_mem ho
          simp only [List.mem_cons, Prod.mk.injEq, List.not_mem_nil, or_false] at this
          rcases this with ⟨rfl, rfl⟩
          · exact ⟨_, gridAt_spec g0, rfl⟩
      · cases h
    · cases h)
  (fun x h => ⟨rfl, rfl, tat_tree (tat_spec x.1 x.2.1 x.2.2 (h _ rfl))⟩)

noncomputable def rat_O (v : Int × Int × Int) : Out := ⟨.sv (.agg [.val false (.int .i64 v.1), .val false (.int .i64 v.2.1), .val false (.int .i64 v.2.2)]), [], 30, []⟩
noncomputable def rat_rd (out : Out) : Option (Int × Int × Int) := some (rI (rvC out.v 0 0), rI (rvC out.v 0 1), rI (rvC out.v 0 2))
noncomputable def rat_res (x0_0 : Int) (x0_1 : List (List Ct)) (x1 : Int) : Option (Int × Int × Int) := bif ((rrt_res x0_0 x0_1).isSome) then bif (!rrt_v x0_0 x0_1) then (some (0, 0, 0)) else bif ((rpl_res x0_1 x1).isSome) then bif (decide (rpl_v x0_1 x1 < (0 : Int))) then (bif (decide ((0 : Int) ≤ (0 : Int) ∧ (0 : Int) < (↑x0_1.length : Int))) then some ((rd x0_1 (Int.toNat (0 : Int)) 1).int, (rd x0_1 (Int.toNat (0 : Int)) 2).int, (rd x0_1 (Int.toNat (0 : Int)) 3).int) else none) else bif (rpl_v x0_1 x1 == IntKind.i64.wrap ((↑x0_1.length : Int) - (1 : Int))) then (bif (decide ((0 : Int) ≤ rpl_v x0_1 x1 ∧ rpl_v x0_1 x1 < (↑x0_1.length : Int))) then some ((rd x0_1 (rpl_v x0_1 x1).toNat 1).int, (rd x0_1 (rpl_v x0_1 x1).toNat 2).int, (rd x0_1 (rpl_v x0_1 x1).toNat 3).int) else none) else bif (x0_0 == (0 : Int)) then (bif (decide ((0 : Int) ≤ rpl_v x0_1 x1 ∧ rpl_v x0_1 x1 < (↑x0_1.length : Int))) then some ((rd x0_1 (rpl_v x0_1 x1).toNat 1).int, (rd x0_1 (rpl_v x0_1 x1).toNat 2).int, (rd x0_1 (rpl_v x0_1 x1).toNat 3).int) else none) else bif (decide ((0 : Int) ≤ rpl_v x0_1 x1 ∧ rpl_v x0_1 x1 < (↑x0_1.length : Int))) then bif (decide ((0 : Int) ≤ IntKind.i64.wrap (rpl_v x0_1 x1 + (1 : Int)) ∧ IntKind.i64.wrap (rpl_v x0_1 x1 + (1 : Int)) < (↑x0_1.length : Int))) then bif (x0_0 == (2 : Int)) then (some (lerpS (rd x0_1 (rpl_v x0_1 x1).toNat 1).int (rd x0_1 (IntKind.i64.wrap (rpl_v x0_1 x1 + (1 : Int))).toNat 1).int (easeS (divS (IntKind.i64.wrap (x1 - (rd x0_1 (rpl_v x0_1 x1).toNat 0).int)) (IntKind.i64.wrap ((rd x0_1 (IntKind.i64.wrap (rpl_v x0_1 x1 + (1 : Int))).toNat 0).int - (rd x0_1 (rpl_v x0_1 x1).toNat 0).int)))), lerpS (rd x0_1 (rpl_v x0_1 x1).toNat 2).int (rd x0_1 (IntKind.i64.wrap (rpl_v x0_1 x1 + (1 : Int))).toNat 2).int (easeS (divS (IntKind.i64.wrap (x1 - (rd x0_1 (rpl_v x0_1 x1).toNat 0).int)) (IntKind.i64.wrap ((rd x0_1 (IntKind.i64.wrap (rpl_v x0_1 x1 + (1 : Int))).toNat 0).int - (rd x0_1 (rpl_v x0_1 x1).toNat 0).int)))), lerpS (rd x0_1 (rpl_v x0_1 x1).toNat 3).int (rd x0_1 (IntKind.i64.wrap (rpl_v x0_1 x1 + (1 : Int))).toNat 3).int (easeS (divS (IntKind.i64.wrap (x1 - (rd x0_1 (rpl_v x0_1 x1).toNat 0).int)) (IntKind.i64.wrap ((rd x0_1 (IntKind.i64.wrap (rpl_v x0_1 x1 + (1 : Int))).toNat 0).int - (rd x0_1 (rpl_v x0_1 x1).toNat 0).int)))))) else some (lerpS (rd x0_1 (rpl_v x0_1 x1).toNat 1).int (rd x0_1 (IntKind.i64.wrap (rpl_v x0_1 x1 + (1 : Int))).toNat 1).int (divS (IntKind.i64.wrap (x1 - (rd x0_1 (rpl_v x0_1 x1).toNat 0).int)) (IntKind.i64.wrap ((rd x0_1 (IntKind.i64.wrap (rpl_v x0_1 x1 + (1 : Int))).toNat 0).int - (rd x0_1 (rpl_v x0_1 x1).toNat 0).int))), lerpS (rd x0_1 (rpl_v x0_1 x1).toNat 2).int (rd x0_1 (IntKind.i64.wrap (rpl_v x0_1 x1 + (1 : Int))).toNat 2).int (divS (IntKind.i64.wrap (x1 - (rd x0_1 (rpl_v x0_1 x1).toNat 0).int)) (IntKind.i64.wrap ((rd x0_1 (IntKind.i64.wrap (rpl_v x0_1 x1 + (1 : Int))).toNat 0).int - (rd x0_1 (rpl_v x0_1 x1).toNat 0).int))), lerpS (rd x0_1 (rpl_v x0_1 x1).toNat 3).int (rd x0_1 (IntKind.i64.wrap (rpl_v x0_1 x1 + (1 : Int))).toNat 3).int (divS (IntKind.i64.wrap (x1 - (rd x0_1 (rpl_v x0_1 x1).toNat 0).int)) (IntKind.i64.wrap ((rd x0_1 (IntKind.i64.wrap (rpl_v x0_1 x1 + (1 : Int))).toNat 0).int - (rd x0_1 (rpl_v x0_1 x1).toNat 0).int)))) else none else none else none else none
set_option maxRecDepth 100000 in
theorem rat_tree {x0_0 : Int} {x0_1 : List (List Ct)} {x1 : Int} {v : Int × Int × Int} (h : rat_res x0_0 x0_1 x1 = some v) : CallOk Try.prog 68 [.sv (.agg [.val false (.int .i64 x0_0), .ext 0]), .sv (.one (.val false (.int .i64 x1)))] [(0, .grid [.int .i64, .int .i64, .int .i64, .int .i64] x0_1)] 1 (rat_O v) :=
  eng_tree (C := (⟨consOrbitQ, fun _ _ _ => none, fun f => false, noFacts, fun _ => 0⟩ : Cfg Try.prog)) noFacts_ok (n := 30) (f := 68) rat_O rat_rd rfl (by kernel_rfl) h
noncomputable def rat_v (x0_0 : Int) (x0_1 : List (List Ct)) (x1 : Int) : Int × Int × Int := (rat_res x0_0 x0_1 x1).getD default
theorem rat_spec (x0_0 : Int) (x0_1 : List (List Ct)) (x1 : Int) (h : ((rat_res x0_0 x0_1 x1).isSome) = true) : rat_res x0_0 x0_1 x1 = some (rat_v x0_0 x0_1 x1) := opt_get h
noncomputable def rat_m (args : List RV) (hp : Hp) : Option ((Int × List (List Ct) × Int) × List Nat) := match args with
  | [.sv (.agg [.val _ (.int .i64 x0_0), .ext i0]), .sv (.one (.val _ (.int .i64 x1)))] => (match gridAt hp i0 [.int .i64, .int .i64, .int .i64, .int .i64] with
    | some x0_1 => some ((x0_0, x0_1, x1), [i0])
    | _ => none)
  | _ => none
noncomputable def rat_con : Con Try.prog := conX Try.prog 68 rat_m 1 (fun x => [.sv (.agg [.val false (.int .i64 x.1), .ext 0]), .sv (.one (.val false (.int .i64 x.2.2)))]) (fun x => [(0, .grid [.int .i64, .int .i64, .int .i64, .int .i64] x.2.1)]) (fun x => some ((rat_res x.1 x.2.1 x.2.2).isSome)) (fun x => rat_O (rat_v x.1 x.2.1 x.2.2))
  (by
    intro args hp x r h
    unfold rat_m at h
    split at h
    · split at h
      · rename_i g0
        cases h
        refine ⟨rfl, fun nx => ⟨rfl, ?_, ?_⟩⟩
        · intro i hi
          simp only [List.mem_cons, List.not_mem_nil, or_false] at hi
          rcases hi with rfl
          · exact ⟨_, List.mem_of_getElem? (i := 0) rfl, .inl (by simp [RV.ids, SV.ids, CV.ids])⟩
        · intro id o0 ho
          have := hlook_mem ho
          simp only [List.mem_cons, Prod.mk.injEq, List.not_mem_nil, or_false] at this
          rcases this with ⟨rfl, rfl⟩
          · exact ⟨_, gridAt_spec g0, rfl⟩
      · cases h
    · cases h)
  (fun x h => ⟨rfl, rfl, rat_tree (rat_spec x.1 x.2.1 x.2.2 (h _ rfl))⟩)
noncomputable def consOrbitT : List (Con Try.prog) := [tat_con.freeze, rat_con.freeze] ++ consOrbitQ
end Go.Proofs.Ytmpaelkjooahoaa
