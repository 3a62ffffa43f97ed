/- A part of a track. No condition. -/
import Derived.Test.YtmpaelkjooahoaaEngOrbitT
set_option linter.unusedVariables false
set_option linter.unusedSimpArgs false
namespace Go.Proofs.Ytmpaelkjooahoaa
open Go.RowKit

noncomputable def opa_L0_S (x0_0 : Int) (x0_1 : List (List Ct)) (x1 : Int) (x2 : Int) (v : Int × List (List Ct)) : St := ⟨[.sv (.agg [.q x0_0, .ext 0]), .o (.q x1), .o (.q x2), .o (.ptr 1 0), .d, .d, .o (.ptr 2 0), .o (.val true (.int .i64 0)), .o (.ext 70), .d, .d, .sv (.agg [.q x0_0, .ext 0]), .o (.val false (.bool (trt_v x0_0 x0_1))), .o (.val false (.bool (!trt_v x0_0 x0_1))), .o (.val true (.bool false)), .o (.q x1), .o (.val false (.bool (decide (x1 < (0 : Int))))), .o (.val false (.bool (decide (x1 < (0 : Int))))), .o (.val true (.bool false)), .o (.q x1), .o (.q x2), .o (.val false (.bool (decide (x1 ≥ x2)))), .o (.val false (.bool (decide (x1 ≥ x2)))), .o (.val true (.bool false)), .o (.q x2), .o (.val false (.bool (decide (x2 > (2097152 : Int))))), .o (.val true (.bool false)), .d, .o (.q x1), .sv (.agg [.q x0_0, .ext 0]), .o (.q x1), .sv (.agg [.q ((tat_v x0_0 x0_1 x1).fst), .q ((tat_v x0_0 x0_1 x1).snd.fst), .q ((tat_v x0_0 x0_1 x1).snd.snd)]), .sv (.agg [.q x1, .q ((tat_v x0_0 x0_1 x1).fst), .q ((tat_v x0_0 x0_1 x1).snd.fst), .q ((tat_v x0_0 x0_1 x1).snd.snd)]), .d, .o (.ptr 1 1), .o (.ext 0), .o (.q (↑x0_1.length : Int)), .o (.q v.1), .d, .d, .d, .d, .d, .d, .d, .d, .d, .d, .d, .d, .d, .d, .d, .d, .d, .d, .d, .d, .d, .d, .d, .d, .d, .d, .d, .d, .d, .d, .d], [(0, .grid ([Sh.int IntKind.i64, Sh.int IntKind.i64, Sh.int IntKind.i64, Sh.int IntKind.i64]) x0_1), (1, .cells [.q x0_0, .ext 0] 33), (2, .cells [.val true (.int .i64 0), .val true (Value.slice none 0 0)] 33), (70, .row ([Sh.int IntKind.i64, Sh.int IntKind.i64, Sh.int IntKind.i64, Sh.int IntKind.i64]) 86 v.2)], 71, []⟩
noncomputable def opa_L0_T (x0_0 : Int) (x0_1 : List (List Ct)) (x1 : Int) (x2 : Int) (v : Int × List (List Ct)) : Ex × St := ((.exit 0), ⟨(opa_L0_S x0_0 x0_1 x1 x2 v).fr, (opa_L0_S x0_0 x0_1 x1 x2 v).hp, 72, []⟩)
noncomputable def opa_L0_rd (ex : Ex) (s : St) : Option ((Int × List (List Ct)) ⊕ (Int × List (List Ct))) × List (Nat × Option Nat) := match ex with
  | .normal => (some (.inl (rI (frC s 37 0), rL s (frC s 8 0))), [(1, some 1), (2, some 2), rnOf 70 (frC s 8 0)])
  | .exit i => bif Nat.beq i 0 then (some (.inr (rI (frC s 37 0), rL s (frC s 8 0))), [(1, some 1), (2, some 2), (70, some 70)]) else (none, [])
  | _ => (none, [])
noncomputable def opa_L0_step (x0_1 : List (List Ct)) (x1 : Int) (x2 : Int) : (Int × List (List Ct)) → Option ((Int × List (List Ct)) ⊕ (Int × List (List Ct))) := fun v => match v with
  | (vi0, vl0) => bif (decide (vi0 < (↑x0_1.length : Int))) then (bif (decide ((0 : Int) ≤ vi0 ∧ vi0 < (↑x0_1.length : Int))) then bif (decide ((rd x0_1 vi0.toNat 0).int > x1)) then (bif (decide ((rd x0_1 vi0.toNat 0).int < x2)) then (bif (decide (vl0.length + [[Ct.i (rd x0_1 vi0.toNat 0).int, Ct.i (rd x0_1 vi0.toNat 1).int, Ct.i (rd x0_1 vi0.toNat 2).int, Ct.i (rd x0_1 vi0.toNat 3).int]].length ≤ 9223372036854775807 ∧ (vl0.length + [[Ct.i (rd x0_1 vi0.toNat 0).int, Ct.i (rd x0_1 vi0.toNat 1).int, Ct.i (rd x0_1 vi0.toNat 2).int, Ct.i (rd x0_1 vi0.toNat 3).int]].length) * 32 ≤ 140737488355328)) then some (.inl (IntKind.i64.wrap (vi0 + (1 : Int)), vl0 ++ [[Ct.i (rd x0_1 vi0.toNat 0).int, Ct.i (rd x0_1 vi0.toNat 1).int, Ct.i (rd x0_1 vi0.toNat 2).int, Ct.i (rd x0_1 vi0.toNat 3).int]])) else none) else some (.inl (IntKind.i64.wrap (vi0 + (1 : Int)), vl0))) else some (.inl (IntKind.i64.wrap (vi0 + (1 : Int)), vl0)) else none) else some (.inr (vi0, vl0))
noncomputable def opa_L0_c : Code := loopC Try.prog 28 0
set_option maxRecDepth 100000 in
theorem opa_L0_ok (x0_0 : Int) (x0_1 : List (List Ct)) (x1 : Int) (x2 : Int) : ∀ v, StepOk Try.prog 1 opa_L0_c (opa_L0_S x0_0 x0_1 x1 x2) (opa_L0_T x0_0 x0_1 x1 x2) v (opa_L0_step x0_1 x1 x2 v) := fun v => match v with | (vi0, vl0) => eng_step (C := (⟨consOrbitT, fun _ _ _ => none, fun f => ⟨false, Nat.beq f 28⟩, noFacts, fun _ => 0⟩ : Cfg Try.prog)) noFacts_ok (n := 30) (f := 28) opa_L0_rd (fun _ => rfl) (by kernel_rfl)
noncomputable def opa_L0_p (x0_0 : Int) (x0_1 : List (List Ct)) (x1 : Int) (x2 : Int) : Bool := (iter (opa_L0_step x0_1 x1 x2) (x0_1.length + 1) (0, ([[Ct.i x1, Ct.i (tat_v x0_0 x0_1 x1).fst, Ct.i (tat_v x0_0 x0_1 x1).snd.fst, Ct.i (tat_v x0_0 x0_1 x1).snd.snd]]))).isSome
noncomputable def opa_L0_v (x0_0 : Int) (x0_1 : List (List Ct)) (x1 : Int) (x2 : Int) : Int × List (List Ct) := loopRes (opa_L0_step x0_1 x1 x2) (x0_1.length + 1) (0, ([[Ct.i x1, Ct.i (tat_v x0_0 x0_1 x1).fst, Ct.i (tat_v x0_0 x0_1 x1).snd.fst, Ct.i (tat_v x0_0 x0_1 x1).snd.snd]]))
set_option maxRecDepth 100000 in
noncomputable def opa_L0_lc (x0_0 : Int) (x0_1 : List (List Ct)) (x1 : Int) (x2 : Int) : LoopCon Try.prog := loopCon Try.prog 1 opa_L0_c [(1, some 1), (2, some 2), (70, some 70)] (opa_L0_S x0_0 x0_1 x1 x2) (opa_L0_T x0_0 x0_1 x1 x2) 0 (opa_L0_step x0_1 x1 x2) (opa_L0_ok x0_0 x0_1 x1 x2) (x0_1.length + 1) (0, ([[Ct.i x1, Ct.i (tat_v x0_0 x0_1 x1).fst, Ct.i (tat_v x0_0 x0_1 x1).snd.fst, Ct.i (tat_v x0_0 x0_1 x1).snd.snd]])) (opa_L0_p x0_0 x0_1 x1 x2) rfl (opa_L0_v x0_0 x0_1 x1 x2) rfl
noncomputable def opa_O (v : Int × Int × List (List Ct)) : Out := ⟨.tup [.agg [.val false (.int .i64 v.1), .ext 122], .one (.val false (.int .i64 v.2.1))], [(122, .grid ([Sh.int IntKind.i64, Sh.int IntKind.i64, Sh.int IntKind.i64, Sh.int IntKind.i64]) v.2.2)], 147, []⟩
noncomputable def opa_rd (out : Out) : Option (Int × Int × List (List Ct)) := some (rI (rvC out.v 0 0), rI (rvC out.v 1 0), hpL' out.up 122)
noncomputable def opa_res (x0_0 : Int) (x0_1 : List (List Ct)) (x1 : Int) (x2 : Int) : Option (Int × Int × List (List Ct)) := bif ((trt_res x0_0 x0_1).isSome) then bif (!trt_v x0_0 x0_1) then (some (0, 1, [])) else bif (decide (x1 < (0 : Int))) then (some (0, 1, [])) else bif (decide (x1 ≥ x2)) then (some (0, 1, [])) else bif (decide (x2 > (2097152 : Int))) then (some (0, 1, [])) else bif ((tat_res x0_0 x0_1 x1).isSome) then bif (opa_L0_p x0_0 x0_1 x1 x2) then bif ((tat_res x0_0 x0_1 x2).isSome) then bif (decide ((opa_L0_v x0_0 x0_1 x1 x2).snd.length + [[Ct.i x2, Ct.i (tat_v x0_0 x0_1 x2).fst, Ct.i (tat_v x0_0 x0_1 x2).snd.fst, Ct.i (tat_v x0_0 x0_1 x2).snd.snd]].length ≤ 9223372036854775807 ∧ ((opa_L0_v x0_0 x0_1 x1 x2).snd.length + [[Ct.i x2, Ct.i (tat_v x0_0 x0_1 x2).fst, Ct.i (tat_v x0_0 x0_1 x2).snd.fst, Ct.i (tat_v x0_0 x0_1 x2).snd.snd]].length) * 32 ≤ 140737488355328)) then bif ((tmk_res x0_0 ((opa_L0_v x0_0 x0_1 x1 x2).snd ++ [[Ct.i x2, Ct.i (tat_v x0_0 x0_1 x2).fst, Ct.i (tat_v x0_0 x0_1 x2).snd.fst, Ct.i (tat_v x0_0 x0_1 x2).snd.snd]])).isSome) then some ((tmk_v x0_0 ((opa_L0_v x0_0 x0_1 x1 x2).snd ++ [[Ct.i x2, Ct.i (tat_v x0_0 x0_1 x2).fst, Ct.i (tat_v x0_0 x0_1 x2).snd.fst, Ct.i (tat_v x0_0 x0_1 x2).snd.snd]])).fst, (tmk_v x0_0 ((opa_L0_v x0_0 x0_1 x1 x2).snd ++ [[Ct.i x2, Ct.i (tat_v x0_0 x0_1 x2).fst, Ct.i (tat_v x0_0 x0_1 x2).snd.fst, Ct.i (tat_v x0_0 x0_1 x2).snd.snd]])).snd.fst, (tmk_v x0_0 ((opa_L0_v x0_0 x0_1 x1 x2).snd ++ [[Ct.i x2, Ct.i (tat_v x0_0 x0_1 x2).fst, Ct.i (tat_v x0_0 x0_1 x2).snd.fst, Ct.i (tat_v x0_0 x0_1 x2).snd.snd]])).snd.snd) else none else none else none else none else none else none
set_option maxRecDepth 100000 in
theorem opa_tree {x0_0 : Int} {x0_1 : List (List Ct)} {x1 : Int} {x2 : Int} {v : Int × Int × List (List Ct)} (h : opa_res x0_0 x0_1 x1 x2 = some v) : CallOk Try.prog 28 [.sv (.agg [.val false (.int .i64 x0_0), .ext 0]), .sv (.one (.val false (.int .i64 x1))), .sv (.one (.val false (.int .i64 x2)))] [(0, .grid [.int .i64, .int .i64, .int .i64, .int .i64] x0_1)] 1 (opa_O v) :=
  eng_treeN (C := (⟨consOrbitT, fun f id nx => bif Nat.beq f 28 then (bif Nat.beq id 0 then some (opa_L0_lc x0_0 x0_1 x1 x2) else none) else none, fun f => ⟨false, Nat.beq f 28⟩, noFacts, fun _ => 0⟩ : Cfg Try.prog)) noFacts_ok (n := 30) (f := 28) opa_O opa_rd rfl (by kernel_rfl) h
noncomputable def opa_v (x0_0 : Int) (x0_1 : List (List Ct)) (x1 : Int) (x2 : Int) : Int × Int × List (List Ct) := (opa_res x0_0 x0_1 x1 x2).getD default
theorem opa_spec (x0_0 : Int) (x0_1 : List (List Ct)) (x1 : Int) (x2 : Int) (h : ((opa_res x0_0 x0_1 x1 x2).isSome) = true) : opa_res x0_0 x0_1 x1 x2 = some (opa_v x0_0 x0_1 x1 x2) := opt_get h
noncomputable def opa_m (args : List RV) (hp : Hp) : Option ((Int × List (List Ct) × Int × Int) × List Nat) := match args with
  | [.sv (.agg [.val _ (.int .i64 x0_0), .ext i0]), .sv (.one (.val _ (.int .i64 x1))), .sv (.one (.val _ (.int .i64 x2)))] => (match gridAt hp i0 [.int .i64, .int .i64, .int .i64, .int .i64] with
    | some x0_1 => some ((x0_0, x0_1, x1, x2), [i0])
    | _ => none)
  | _ => none
noncomputable def opa_con : Con Try.prog := conX Try.prog 28 opa_m 1 (fun x => [.sv (.agg [.val false (.int .i64 x.1), .ext 0]), .sv (.one (.val false (.int .i64 x.2.2.1))), .sv (.one (.val false (.int .i64 x.2.2.2)))]) (fun x => [(0, .grid [.int .i64, .int .i64, .int .i64, .int .i64] x.2.1)]) (fun x => some ((opa_res x.1 x.2.1 x.2.2.1 x.2.2.2).isSome)) (fun x => opa_O (opa_v x.1 x.2.1 x.2.2.1 x.2.2.2))
  (by
    intro args hp x r h
    unfold opa_m at h
    split at h
    · split at h
      · rename_i g0
        cases h
        refine ⟨rfl, fun nx => ⟨rfl, ?_, ?_⟩⟩
        · intro i hi
          simp only [List.mem_cons, List.not_mem_nil, or_false] at hi
          rcases hi with rfl
          · exact ⟨_, List.mem_of_getElem? (i := 0) rfl, .inl (by simp [RV.ids, SV.ids, CV.ids])⟩
        · intro id o0 ho
          have := hlook_mem ho
          simp only [List.mem_cons, Prod.mk.injEq, List.not_mem_nil, or_false] at this
          rcases this with ⟨rfl, rfl⟩
          · exact ⟨_, gridAt_spec g0, rfl⟩
      · cases h
    · cases h)
  (fun x h => ⟨rfl, rfl, opa_tree (opa_spec x.1 x.2.1 x.2.2.1 x.2.2.2 (h _ rfl))⟩)

noncomputable def rpa_L0_S (x0_0 : Int) (x0_1 : List (List Ct)) (x1 : Int) (x2 : Int) (v : Int × List (List Ct)) : St := ⟨[.sv (.agg [.q x0_0, .ext 0]), .o (.q x1), .o (.q x2), .o (.ptr 1 0), .d, .d, .o (.ptr 2 0), .o (.val true (.int .i64 0)), .o (.ext 52), .o (.q v.1), .sv (.agg [.q x0_0, .ext 0]), .o (.val false (.bool (rrt_v x0_0 x0_1))), .o (.val false (.bool (!rrt_v x0_0 x0_1))), .o (.val true (.bool false)), .o (.q x1), .o (.val false (.bool (decide (x1 < (0 : Int))))), .o (.val false (.bool (decide (x1 < (0 : Int))))), .o (.val true (.bool false)), .o (.q x1), .o (.q x2), .o (.val false (.bool (decide (x1 ≥ x2)))), .o (.val false (.bool (decide (x1 ≥ x2)))), .o (.val true (.bool false)), .o (.q x2), .o (.val false (.bool (decide (x2 > (2097152 : Int))))), .o (.val true (.bool false)), .d, .o (.q x1), .sv (.agg [.q x0_0, .ext 0]), .o (.q x1), .sv (.agg [.q ((rat_v x0_0 x0_1 x1).fst), .q ((rat_v x0_0 x0_1 x1).snd.fst), .q ((rat_v x0_0 x0_1 x1).snd.snd)]), .sv (.agg [.q x1, .q ((rat_v x0_0 x0_1 x1).fst), .q ((rat_v x0_0 x0_1 x1).snd.fst), .q ((rat_v x0_0 x0_1 x1).snd.snd)]), .d, .d, .d, .d, .d, .d, .d, .d, .d, .d, .d, .d, .d, .d, .d, .d, .d, .d, .d, .d, .d, .d, .d, .d, .d, .d, .d, .d, .d, .d, .d, .d, .d, .d, .d, .d, .d, .d, .d, .d, .d, .d, .d, .d, .d, .d, .d, .d], [(0, .grid ([Sh.int IntKind.i64, Sh.int IntKind.i64, Sh.int IntKind.i64, Sh.int IntKind.i64]) x0_1), (1, .cells [.q x0_0, .ext 0] 39), (2, .cells [.val true (.int .i64 0), .val true (Value.slice none 0 0)] 39), (52, .row ([Sh.int IntKind.i64, Sh.int IntKind.i64, Sh.int IntKind.i64, Sh.int IntKind.i64]) 73 v.2)], 53, []⟩
noncomputable def rpa_L0_T (x0_0 : Int) (x0_1 : List (List Ct)) (x1 : Int) (x2 : Int) (v : Int × List (List Ct)) : Ex × St := ((.exit 0), ⟨(rpa_L0_S x0_0 x0_1 x1 x2 v).fr, (rpa_L0_S x0_0 x0_1 x1 x2 v).hp, 54, []⟩)
noncomputable def rpa_L0_rd (ex : Ex) (s : St) : Option ((Int × List (List Ct)) ⊕ (Int × List (List Ct))) × List (Nat × Option Nat) := match ex with
  | .normal => (some (.inl (rI (frC s 9 0), rL s (frC s 8 0))), [(1, some 1), (2, some 2), rnOf 52 (frC s 8 0)])
  | .exit i => bif Nat.beq i 0 then (some (.inr (rI (frC s 9 0), rL s (frC s 8 0))), [(1, some 1), (2, some 2), (52, some 52)]) else (none, [])
  | _ => (none, [])
noncomputable def rpa_L0_step (x0_1 : List (List Ct)) (x1 : Int) (x2 : Int) : (Int × List (List Ct)) → Option ((Int × List (List Ct)) ⊕ (Int × List (List Ct))) := fun v => match v with
  | (vi0, vl0) => bif (decide (vi0 < (↑x0_1.length : Int))) then (bif (decide ((0 : Int) ≤ vi0 ∧ vi0 < (↑x0_1.length : Int))) then bif (decide ((rd x0_1 vi0.toNat 0).int > x1)) then (bif (decide ((0 : Int) ≤ vi0 ∧ vi0 < (↑x0_1.length : Int))) then bif (decide ((rd x0_1 vi0.toNat 0).int < x2)) then (bif (decide ((0 : Int) ≤ vi0 ∧ vi0 < (↑x0_1.length : Int))) then bif (decide (vl0.length + [[Ct.i (rd x0_1 vi0.toNat 0).int, Ct.i (rd x0_1 vi0.toNat 1).int, Ct.i (rd x0_1 vi0.toNat 2).int, Ct.i (rd x0_1 vi0.toNat 3).int]].length ≤ 9223372036854775807 ∧ (vl0.length + [[Ct.i (rd x0_1 vi0.toNat 0).int, Ct.i (rd x0_1 vi0.toNat 1).int, Ct.i (rd x0_1 vi0.toNat 2).int, Ct.i (rd x0_1 vi0.toNat 3).int]].length) * 32 ≤ 140737488355328)) then some (.inl (IntKind.i64.wrap (vi0 + (1 : Int)), vl0 ++ [[Ct.i (rd x0_1 vi0.toNat 0).int, Ct.i (rd x0_1 vi0.toNat 1).int, Ct.i (rd x0_1 vi0.toNat 2).int, Ct.i (rd x0_1 vi0.toNat 3).int]])) else none else none) else some (.inl (IntKind.i64.wrap (vi0 + (1 : Int)), vl0)) else none) else some (.inl (IntKind.i64.wrap (vi0 + (1 : Int)), vl0)) else none) else some (.inr (vi0, vl0))
noncomputable def rpa_L0_c : Code := loopC Try.prog 30 0
set_option maxRecDepth 100000 in
theorem rpa_L0_ok (x0_0 : Int) (x0_1 : List (List Ct)) (x1 : Int) (x2 : Int) : ∀ v, StepOk Try.prog 1 rpa_L0_c (rpa_L0_S x0_0 x0_1 x1 x2) (rpa_L0_T x0_0 x0_1 x1 x2) v (rpa_L0_step x0_1 x1 x2 v) := fun v => match v with | (vi0, vl0) => eng_step (C := (⟨consOrbitT, fun _ _ _ => none, fun f => ⟨false, Nat.beq f 30⟩, noFacts, fun _ => 0⟩ : Cfg Try.prog)) noFacts_ok (n := 30) (f := 30) rpa_L0_rd (fun _ => rfl) (by kernel_rfl)
noncomputable def rpa_L0_p (x0_0 : Int) (x0_1 : List (List Ct)) (x1 : Int) (x2 : Int) : Bool := (iter (rpa_L0_step x0_1 x1 x2) (x0_1.length + 1) (0, ([[Ct.i x1, Ct.i (rat_v x0_0 x0_1 x1).fst, Ct.i (rat_v x0_0 x0_1 x1).snd.fst, Ct.i (rat_v x0_0 x0_1 x1).snd.snd]]))).isSome
noncomputable def rpa_L0_v (x0_0 : Int) (x0_1 : List (List Ct)) (x1 : Int) (x2 : Int) : Int × List (List Ct) := loopRes (rpa_L0_step x0_1 x1 x2) (x0_1.length + 1) (0, ([[Ct.i x1, Ct.i (rat_v x0_0 x0_1 x1).fst, Ct.i (rat_v x0_0 x0_1 x1).snd.fst, Ct.i (rat_v x0_0 x0_1 x1).snd.snd]]))
set_option maxRecDepth 100000 in
noncomputable def rpa_L0_lc (x0_0 : Int) (x0_1 : List (List Ct)) (x1 : Int) (x2 : Int) : LoopCon Try.prog := loopCon Try.prog 1 rpa_L0_c [(1, some 1), (2, some 2), (52, some 52)] (rpa_L0_S x0_0 x0_1 x1 x2) (rpa_L0_T x0_0 x0_1 x1 x2) 0 (rpa_L0_step x0_1 x1 x2) (rpa_L0_ok x0_0 x0_1 x1 x2) (x0_1.length + 1) (0, ([[Ct.i x1, Ct.i (rat_v x0_0 x0_1 x1).fst, Ct.i (rat_v x0_0 x0_1 x1).snd.fst, Ct.i (rat_v x0_0 x0_1 x1).snd.snd]])) (rpa_L0_p x0_0 x0_1 x1 x2) rfl (rpa_L0_v x0_0 x0_1 x1 x2) rfl
noncomputable def rpa_O (v : Int × Int × List (List Ct)) : Out := ⟨.tup [.agg [.val false (.int .i64 v.1), .ext 86], .one (.val false (.int .i64 v.2.1))], [(86, .grid ([Sh.int IntKind.i64, Sh.int IntKind.i64, Sh.int IntKind.i64, Sh.int IntKind.i64]) v.2.2)], 106, []⟩
noncomputable def rpa_rd (out : Out) : Option (Int × Int × List (List Ct)) := some (rI (rvC out.v 0 0), rI (rvC out.v 1 0), hpL' out.up 86)
noncomputable def rpa_res (x0_0 : Int) (x0_1 : List (List Ct)) (x1 : Int) (x2 : Int) : Option (Int × Int × List (List Ct)) := bif ((rrt_res x0_0 x0_1).isSome) then bif (!rrt_v x0_0 x0_1) then (some (0, 1, [])) else bif (decide (x1 < (0 : Int))) then (some (0, 1, [])) else bif (decide (x1 ≥ x2)) then (some (0, 1, [])) else bif (decide (x2 > (2097152 : Int))) then (some (0, 1, [])) else bif ((rat_res x0_0 x0_1 x1).isSome) then bif (rpa_L0_p x0_0 x0_1 x1 x2) then bif ((rat_res x0_0 x0_1 x2).isSome) then bif (decide ((rpa_L0_v x0_0 x0_1 x1 x2).snd.length + [[Ct.i x2, Ct.i (rat_v x0_0 x0_1 x2).fst, Ct.i (rat_v x0_0 x0_1 x2).snd.fst, Ct.i (rat_v x0_0 x0_1 x2).snd.snd]].length ≤ 9223372036854775807 ∧ ((rpa_L0_v x0_0 x0_1 x1 x2).snd.length + [[Ct.i x2, Ct.i (rat_v x0_0 x0_1 x2).fst, Ct.i (rat_v x0_0 x0_1 x2).snd.fst, Ct.i (rat_v x0_0 x0_1 x2).snd.snd]].length) * 32 ≤ 140737488355328)) then bif ((rmk_res x0_0 ((rpa_L0_v x0_0 x0_1 x1 x2).snd ++ [[Ct.i x2, Ct.i (rat_v x0_0 x0_1 x2).fst, Ct.i (rat_v x0_0 x0_1 x2).snd.fst, Ct.i (rat_v x0_0 x0_1 x2).snd.snd]])).isSome) then some ((rmk_v x0_0 ((rpa_L0_v x0_0 x0_1 x1 x2).snd ++ [[Ct.i x2, Ct.i (rat_v x0_0 x0_1 x2).fst, Ct.i (rat_v x0_0 x0_1 x2).snd.fst, Ct.i (rat_v x0_0 x0_1 x2).snd.snd]])).fst, (rmk_v x0_0 ((rpa_L0_v x0_0 x0_1 x1 x2).snd ++ [[Ct.i x2, Ct.i (rat_v x0_0 x0_1 x2).fst, Ct.i (rat_v x0_0 x0_1 x2).snd.fst, Ct.i (rat_v x0_0 x0_1 x2).snd.snd]])).snd.fst, (rmk_v x0_0 ((rpa_L0_v x0_0 x0_1 x1 x2).snd ++ [[Ct.i x2, Ct.i (rat_v x0_0 x0_1 x2).fst, Ct.i (rat_v x0_0 x0_1 x2).snd.fst, Ct.i (rat_v x0_0 x0_1 x2).snd.snd]])).snd.snd) else none else none else none else none else none else none
set_option maxRecDepth 100000 in
theorem rpa_tree {x0_0 : Int} {x0_1 : List (List Ct)} {x1 : Int} {x2 : Int} {v : Int × Int × List (List Ct)} (h : rpa_res x0_0 x0_1 x1 x2 = some v) : CallOk Try.prog 30 [.sv (.agg [.val false (.int .i64 x0_0), .ext 0]), .sv (.one (.val false (.int .i64 x1))), .sv (.one (.val false (.int .i64 x2)))] [(0, .grid [.int .i64, .int .i64, .int .i64, .int .i64] x0_1)] 1 (rpa_O v) :=
  eng_treeN (C := (⟨consOrbitT, fun f id nx => bif Nat.beq f 30 then (bif Nat.beq id 0 then some (rpa_L0_lc x0_0 x0_1 x1 x2) else none) else none, fun f => ⟨false, Nat.beq f 30⟩, noFacts, fun _ => 0⟩ : Cfg Try.prog)) noFacts_ok (n := 30) (f := 30) rpa_O rpa_rd rfl (by kernel_rfl) h
noncomputable def rpa_v (x0_0 : Int) (x0_1 : List (List Ct)) (x1 : Int) (x2 : Int) : Int × Int × List (List Ct) := (rpa_res x0_0 x0_1 x1 x2).getD default
theorem rpa_spec (x0_0 : Int) (x0_1 : List (List Ct)) (x1 : Int) (x2 : Int) (h : ((rpa_res x0_0 x0_1 x1 x2).isSome) = true) : rpa_res x0_0 x0_1 x1 x2 = some (rpa_v x0_0 x0_1 x1 x2) := opt_get h
noncomputable def rpa_m (args : List RV) (hp : Hp) : Option ((Int × List (List Ct) × Int × Int) × List Nat) := match args with
  | [.sv (.agg [.val _ (.int .i64 x0_0), .ext i0]), .sv (.one (.val _ (.int .i64 x1))), .sv (.one (.val _ (.int .i64 x2)))] => (match gridAt hp i0 [.int .i64, .int .i64, .int .i64, .int .i64] with
    | some x0_1 => some ((x0_0, x0_1, x1, x2), [i0])
    | _ => none)
  | _ => none
noncomputable def rpa_con : Con Try.prog := conX Try.prog 30 rpa_m 1 (fun x => [.sv (.agg [.val false (.int .i64 x.1), .ext 0]), .sv (.one (.val false (.int .i64 x.2.2.1))), .sv (.one (.val false (.int .i64 x.2.2.2)))]) (fun x => [(0, .grid [.int .i64, .int .i64, .int .i64, .int .i64] x.2.1)]) (fun x => some ((rpa_res x.1 x.2.1 x.2.2.1 x.2.2.2).isSome)) (fun x => rpa_O (rpa_v x.1 x.2.1 x.2.2.1 x.2.2.2))
  (by
    intro args hp x r h
    unfold rpa_m at h
    split at h
    · split at h
      · rename_i g0
        cases h
        refine ⟨rfl, fun nx => ⟨rfl, ?_, ?_⟩⟩
        · intro i hi
          simp only [List.mem_cons, List.not_mem_nil, or_false] at hi
          rcases hi with rfl
          · exact ⟨_, List.mem_of_getElem? (i := 0) rfl, .inl (by simp [RV.ids, SV.ids, CV.ids])⟩
        · intro id o0 ho
          have := hlook_mem ho
          simp only [List.mem_cons, Prod.mk.injEq, List.not_mem_nil, or_false] at this
          rcases this with ⟨rfl, rfl⟩
          · exact ⟨_, gridAt_spec g0, rfl⟩
      · cases h
    · cases h)
  (fun x h => ⟨rfl, rfl, rpa_tree (rpa_spec x.1 x.2.1 x.2.2.1 x.2.2.2 (h _ rfl))⟩)
noncomputable def consOrbitU : List (Con Try.prog) := [opa_con, rpa_con] ++ consOrbitT
end Go.Proofs.Ytmpaelkjooahoaa
