/- How long a track is; the example of layer 34 holds. No condition. -/
import Derived.Test.YtmpaelkjooahoaaEngOrbit1
set_option linter.unusedVariables false
set_option linter.unusedSimpArgs false
namespace Go.Proofs.Ytmpaelkjooahoaa
open Go.RowKit

noncomputable def olg_L0_S (x0_0 : Int) (x0_1 : List (List Ct)) (v : Int × Int) : St := ⟨[.sv (.agg [.q x0_0, .ext 0]), .o (.ptr 1 0), .o (.val true (.int .i64 0)), .o (.q v.1), .d, .d, .sv (.agg [.q x0_0, .ext 0]), .o (.val false (.bool (trt_v x0_0 x0_1))), .o (.val true (.bool false)), .o (.ptr 1 1), .o (.ext 0), .o (.ext 25), .o (.q (↑(partOf x0_1 (1 : Int) (↑x0_1.length : Int)).length : Int)), .o (.q v.2), .d, .d, .d, .d, .d, .d, .d, .d, .d, .d, .d, .d, .d, .d, .d, .d, .d, .d], [(0, .grid ([Sh.int IntKind.i64, Sh.int IntKind.i64, Sh.int IntKind.i64, Sh.int IntKind.i64]) x0_1), (1, .cells [.q x0_0, .ext 0] 33), (25, .grid ([Sh.int IntKind.i64, Sh.int IntKind.i64, Sh.int IntKind.i64, Sh.int IntKind.i64]) (partOf x0_1 (1 : Int) (↑x0_1.length : Int)))], 26, []⟩
noncomputable def olg_L0_T (x0_0 : Int) (x0_1 : List (List Ct)) (v : Int × Int) : Ex × St := ((.exit 0), ⟨(olg_L0_S x0_0 x0_1 v).fr, (olg_L0_S x0_0 x0_1 v).hp, 27, []⟩)
noncomputable def olg_L0_rd (ex : Ex) (s : St) : Option ((Int × Int) ⊕ (Int × Int)) × List (Nat × Option Nat) := match ex with
  | .normal => (some (.inl (rI (frC s 3 0), rI (frC s 13 0))), [(1, some 1), (25, some 25)])
  | .exit i => bif Nat.beq i 0 then (some (.inr (rI (frC s 3 0), rI (frC s 13 0))), [(1, some 1), (25, some 25)]) else (none, [])
  | _ => (none, [])
noncomputable def olg_L0_step (x0_1 : List (List Ct)) : (Int × Int) → Option ((Int × Int) ⊕ (Int × Int)) := fun v => match v with
  | (vi0, vi1) => bif (decide (vi1 < (↑(partOf x0_1 (1 : Int) (↑x0_1.length : Int)).length : Int))) then (bif (decide ((0 : Int) ≤ vi1 ∧ vi1 < (↑(partOf x0_1 (1 : Int) (↑x0_1.length : Int)).length : Int))) then bif (decide ((0 : Int) ≤ vi1 ∧ vi1 < (↑x0_1.length : Int))) then some (.inl (addS vi0 (rootS (addS (addS (addS (0 : Int) (mulS (subS (rd (partOf x0_1 (1 : Int) (↑x0_1.length : Int)) vi1.toNat 1).int (rd x0_1 vi1.toNat 1).int) (subS (rd (partOf x0_1 (1 : Int) (↑x0_1.length : Int)) vi1.toNat 1).int (rd x0_1 vi1.toNat 1).int))) (mulS (subS (rd (partOf x0_1 (1 : Int) (↑x0_1.length : Int)) vi1.toNat 2).int (rd x0_1 vi1.toNat 2).int) (subS (rd (partOf x0_1 (1 : Int) (↑x0_1.length : Int)) vi1.toNat 2).int (rd x0_1 vi1.toNat 2).int))) (mulS (subS (rd (partOf x0_1 (1 : Int) (↑x0_1.length : Int)) vi1.toNat 3).int (rd x0_1 vi1.toNat 3).int) (subS (rd (partOf x0_1 (1 : Int) (↑x0_1.length : Int)) vi1.toNat 3).int (rd x0_1 vi1.toNat 3).int)))), IntKind.i64.wrap (vi1 + (1 : Int)))) else none else none) else some (.inr (vi0, vi1))
noncomputable def olg_L0_c : Code := loopC Try.prog 21 0
set_option maxRecDepth 100000 in
theorem olg_L0_ok (x0_0 : Int) (x0_1 : List (List Ct)) : ∀ v, StepOk Try.prog 1 olg_L0_c (olg_L0_S x0_0 x0_1) (olg_L0_T x0_0 x0_1) v (olg_L0_step x0_1 v) := fun v => match v with | (vi0, vi1) => eng_step (C := (⟨consOrbit1, fun _ _ _ => none, fun f => false, noFacts, fun _ => 0⟩ : Cfg Try.prog)) noFacts_ok (n := 30) (f := 21) olg_L0_rd (fun _ => rfl) (by kernel_rfl)
noncomputable def olg_L0_p (x0_1 : List (List Ct)) : Bool := (iter (olg_L0_step x0_1) (x0_1.length + 1) (0, 0)).isSome
noncomputable def olg_L0_v (x0_1 : List (List Ct)) : Int × Int := loopRes (olg_L0_step x0_1) (x0_1.length + 1) (0, 0)
set_option maxRecDepth 100000 in
noncomputable def olg_L0_lc (x0_0 : Int) (x0_1 : List (List Ct)) : LoopCon Try.prog := loopCon Try.prog 1 olg_L0_c [(1, some 1), (25, some 25)] (olg_L0_S x0_0 x0_1) (olg_L0_T x0_0 x0_1) 0 (olg_L0_step x0_1) (olg_L0_ok x0_0 x0_1) (x0_1.length + 1) (0, 0) (olg_L0_p x0_1) rfl (olg_L0_v x0_1) rfl
noncomputable def olg_O (v : Int) : Out := ⟨.sv (.one (.val false (.int .i64 v))), [], 27, []⟩
noncomputable def olg_rd (out : Out) : Option (Int) := some (rI (rvC out.v 0 0))
noncomputable def olg_res (x0_0 : Int) (x0_1 : List (List Ct)) : Option (Int) := bif ((trt_res x0_0 x0_1).isSome) then bif (!trt_v x0_0 x0_1) then (some 0) else bif (decide ((0 : Int) ≤ (1 : Int) ∧ (1 : Int) ≤ (↑x0_1.length : Int) ∧ (↑x0_1.length : Int) ≤ (↑x0_1.length : Int))) then bif (olg_L0_p x0_1) then some ((olg_L0_v x0_1).fst) else none else none else none
set_option maxRecDepth 100000 in
theorem olg_tree {x0_0 : Int} {x0_1 : List (List Ct)} {v : Int} (h : olg_res x0_0 x0_1 = some v) : CallOk Try.prog 21 [.sv (.agg [.val false (.int .i64 x0_0), .ext 0])] [(0, .grid [.int .i64, .int .i64, .int .i64, .int .i64] x0_1)] 1 (olg_O v) :=
  eng_tree (C := (⟨consOrbit1, fun f id nx => bif Nat.beq f 21 then (bif Nat.beq id 0 then some (olg_L0_lc x0_0 x0_1) else none) else none, fun f => false, noFacts, fun _ => 0⟩ : Cfg Try.prog)) noFacts_ok (n := 30) (f := 21) olg_O olg_rd rfl (by kernel_rfl) h
noncomputable def olg_v (x0_0 : Int) (x0_1 : List (List Ct)) : Int := (olg_res x0_0 x0_1).getD default
theorem olg_spec (x0_0 : Int) (x0_1 : List (List Ct)) (h : ((olg_res x0_0 x0_1).isSome) = true) : olg_res x0_0 x0_1 = some (olg_v x0_0 x0_1) := opt_get h
noncomputable def olg_m (args : List RV) (hp : Hp) : Option ((Int × List (List Ct)) × List Nat) := match args with
  | [.sv (.agg [.val _ (.int .i64 x0_0), .ext i0])] => (match gridAt hp i0 [.int .i64, .int .i64, .int .i64, .int .i64] with
    | some x0_1 => some ((x0_0, x0_1), [i0])
    | _ => none)
  | _ => none
noncomputable def olg_con : Con Try.prog := conX Try.prog 21 olg_m 1 (fun x => [.sv (.agg [.val false (.int .i64 x.1), .ext 0])]) (fun x => [(0, .grid [.int .i64, .int .i64, .int .i64, .int .i64] x.2)]) (fun x => some ((olg_res x.1 x.2).isSome)) (fun x => olg_O (olg_v x.1 x.2))
  (by
    intro args hp x r h
    unfold olg_m at h
    split at h
    · split at h
      · rename_i g0
        cases h
        refine ⟨rfl, fun nx => ⟨rfl, ?_, ?_⟩⟩
        · intro i hi
          simp only [List.mem_cons, List.not_mem_nil, or_false] at hi
          rcases hi with rfl
          · exact ⟨_, List.mem_of_getElem? (i := 0) rfl, .inl (by simp [RV.ids, SV.ids, CV.ids])⟩
        · intro id o0 ho
          have := hlook_mem ho
          simp only [List.mem_cons, Prod.mk.injEq, List.not_mem_nil, or_false] at this
          rcases this with ⟨rfl, rfl⟩
          · exact ⟨_, gridAt_spec g0, rfl⟩
      · cases h
    · cases h)
  (fun x h => ⟨rfl, rfl, olg_tree (olg_spec x.1 x.2 (h _ rfl))⟩)

noncomputable def rlg_L0_S (x0_0 : Int) (x0_1 : List (List Ct)) (v : Int × Int) : St := ⟨[.sv (.agg [.q x0_0, .ext 0]), .o (.ptr 1 0), .o (.val true (.int .i64 0)), .o (.q v.1), .o (.q v.2), .sv (.agg [.q x0_0, .ext 0]), .o (.val false (.bool (rrt_v x0_0 x0_1))), .o (.val true (.bool false)), .d, .d, .d, .d, .d, .d, .d, .d, .d, .d, .d, .d, .d, .d, .d, .d, .d, .d, .d, .d, .d, .d, .d, .d, .d], [(0, .grid ([Sh.int IntKind.i64, Sh.int IntKind.i64, Sh.int IntKind.i64, Sh.int IntKind.i64]) x0_1), (1, .cells [.q x0_0, .ext 0] 39)], 19, []⟩
noncomputable def rlg_L0_T (x0_0 : Int) (x0_1 : List (List Ct)) (v : Int × Int) : Ex × St := ((.exit 0), ⟨(rlg_L0_S x0_0 x0_1 v).fr, (rlg_L0_S x0_0 x0_1 v).hp, 20, []⟩)
noncomputable def rlg_L0_rd (ex : Ex) (s : St) : Option ((Int × Int) ⊕ (Int × Int)) × List (Nat × Option Nat) := match ex with
  | .normal => (some (.inl (rI (frC s 3 0), rI (frC s 4 0))), [(1, some 1)])
  | .exit i => bif Nat.beq i 0 then (some (.inr (rI (frC s 3 0), rI (frC s 4 0))), [(1, some 1)]) else (none, [])
  | _ => (none, [])
noncomputable def rlg_L0_step (x0_1 : List (List Ct)) : (Int × Int) → Option ((Int × Int) ⊕ (Int × Int)) := fun v => match v with
  | (vi0, vi1) => bif (decide (vi1 < (↑x0_1.length : Int))) then (bif (decide ((0 : Int) ≤ vi1 ∧ vi1 < (↑x0_1.length : Int))) then bif (decide ((0 : Int) ≤ IntKind.i64.wrap (vi1 - (1 : Int)) ∧ IntKind.i64.wrap (vi1 - (1 : Int)) < (↑x0_1.length : Int))) then some (.inl (addS vi0 (rootS (addS (addS (addS (0 : Int) (mulS (subS (rd x0_1 vi1.toNat 1).int (rd x0_1 (IntKind.i64.wrap (vi1 - (1 : Int))).toNat 1).int) (subS (rd x0_1 vi1.toNat 1).int (rd x0_1 (IntKind.i64.wrap (vi1 - (1 : Int))).toNat 1).int))) (mulS (subS (rd x0_1 vi1.toNat 2).int (rd x0_1 (IntKind.i64.wrap (vi1 - (1 : Int))).toNat 2).int) (subS (rd x0_1 vi1.toNat 2).int (rd x0_1 (IntKind.i64.wrap (vi1 - (1 : Int))).toNat 2).int))) (mulS (subS (rd x0_1 vi1.toNat 3).int (rd x0_1 (IntKind.i64.wrap (vi1 - (1 : Int))).toNat 3).int) (subS (rd x0_1 vi1.toNat 3).int (rd x0_1 (IntKind.i64.wrap (vi1 - (1 : Int))).toNat 3).int)))), IntKind.i64.wrap (vi1 + (1 : Int)))) else none else none) else some (.inr (vi0, vi1))
noncomputable def rlg_L0_c : Code := loopC Try.prog 27 0
set_option maxRecDepth 100000 in
theorem rlg_L0_ok (x0_0 : Int) (x0_1 : List (List Ct)) : ∀ v, StepOk Try.prog 1 rlg_L0_c (rlg_L0_S x0_0 x0_1) (rlg_L0_T x0_0 x0_1) v (rlg_L0_step x0_1 v) := fun v => match v with | (vi0, vi1) => eng_step (C := (⟨consOrbit1, fun _ _ _ => none, fun f => false, noFacts, fun _ => 0⟩ : Cfg Try.prog)) noFacts_ok (n := 30) (f := 27) rlg_L0_rd (fun _ => rfl) (by kernel_rfl)
noncomputable def rlg_L0_p (x0_1 : List (List Ct)) : Bool := (iter (rlg_L0_step x0_1) (x0_1.length + 1) (0, 1)).isSome
noncomputable def rlg_L0_v (x0_1 : List (List Ct)) : Int × Int := loopRes (rlg_L0_step x0_1) (x0_1.length + 1) (0, 1)
set_option maxRecDepth 100000 in
noncomputable def rlg_L0_lc (x0_0 : Int) (x0_1 : List (List Ct)) : LoopCon Try.prog := loopCon Try.prog 1 rlg_L0_c [(1, some 1)] (rlg_L0_S x0_0 x0_1) (rlg_L0_T x0_0 x0_1) 0 (rlg_L0_step x0_1) (rlg_L0_ok x0_0 x0_1) (x0_1.length + 1) (0, 1) (rlg_L0_p x0_1) rfl (rlg_L0_v x0_1) rfl
noncomputable def rlg_O (v : Int) : Out := ⟨.sv (.one (.val false (.int .i64 v))), [], 20, []⟩
noncomputable def rlg_rd (out : Out) : Option (Int) := some (rI (rvC out.v 0 0))
noncomputable def rlg_res (x0_0 : Int) (x0_1 : List (List Ct)) : Option (Int) := bif ((rrt_res x0_0 x0_1).isSome) then bif (!rrt_v x0_0 x0_1) then (some 0) else bif (rlg_L0_p x0_1) then some ((rlg_L0_v x0_1).fst) else none else none
set_option maxRecDepth 100000 in
theorem rlg_tree {x0_0 : Int} {x0_1 : List (List Ct)} {v : Int} (h : rlg_res x0_0 x0_1 = some v) : CallOk Try.prog 27 [.sv (.agg [.val false (.int .i64 x0_0), .ext 0])] [(0, .grid [.int .i64, .int .i64, .int .i64, .int .i64] x0_1)] 1 (rlg_O v) :=
  eng_tree (C := (⟨consOrbit1, fun f id nx => bif Nat.beq f 27 then (bif Nat.beq id 0 then some (rlg_L0_lc x0_0 x0_1) else none) else none, fun f => false, noFacts, fun _ => 0⟩ : Cfg Try.prog)) noFacts_ok (n := 30) (f := 27) rlg_O rlg_rd rfl (by kernel_rfl) h
noncomputable def rlg_v (x0_0 : Int) (x0_1 : List (List Ct)) : Int := (rlg_res x0_0 x0_1).getD default
theorem rlg_spec (x0_0 : Int) (x0_1 : List (List Ct)) (h : ((rlg_res x0_0 x0_1).isSome) = true) : rlg_res x0_0 x0_1 = some (rlg_v x0_0 x0_1) := opt_get h
noncomputable def rlg_m (args : List RV) (hp : Hp) : Option ((Int × List (List Ct)) × List Nat) := match args with
  | [.sv (.agg [.val _ (.int .i64 x0_0), .ext i0])] => (match gridAt hp i0 [.int .i64, .int .i64, .int .i64, .int .i64] with
    | some x0_1 => some ((x0_0, x0_1), [i0])
    | _ => none)
  | _ => none
noncomputable def rlg_con : Con Try.prog := conX Try.prog 27 rlg_m 1 (fun x => [.sv (.agg [.val false (.int .i64 x.1), .ext 0])]) (fun x => [(0, .grid [.int .i64, .int .i64, .int .i64, .int .i64] x.2)]) (fun x => some ((rlg_res x.1 x.2).isSome)) (fun x => rlg_O (rlg_v x.1 x.2))
  (by
    intro args hp x r h
    unfold rlg_m at h
    split at h
    · split at h
      · rename_i g0
        cases h
        refine ⟨rfl, fun nx => ⟨rfl, ?_, ?_⟩⟩
        · intro i hi
          simp only [List.mem_cons, List.not_mem_nil, or_false] at hi
          rcases hi with rfl
          · exact ⟨_, List.mem_of_getElem? (i := 0) rfl, .inl (by simp [RV.ids, SV.ids, CV.ids])⟩
        · intro id o0 ho
          have := hlook_mem ho
          simp only [List.mem_cons, Prod.mk.injEq, List.not_mem_nil, or_false] at this
          rcases this with ⟨rfl, rfl⟩
          · exact ⟨_, gridAt_spec g0, rfl⟩
      · cases h
    · cases h)
  (fun x h => ⟨rfl, rfl, rlg_tree (rlg_spec x.1 x.2 (h _ rfl))⟩)

noncomputable def cfgOrbitQ : Cfg Try.prog := ⟨[olg_con.freeze] ++ consWave, fun _ _ _ => none, fun _ => ⟨false, true⟩, noFacts, fun _ => 0⟩
set_option maxRecDepth 100000 in
theorem awake34E (w : World) : Calls Try.prog 8 #[] w fun en w' => en = .returned (.bool true) ∧ Below w.heap.size w w' := eng_closed (C := cfgOrbitQ) noFacts_ok (n := 30) (by kernel_rfl) w
noncomputable def consOrbit2 : List (Con Try.prog) := [olg_con.freeze, rlg_con.freeze, conC Try.prog 8 (.bool true) awake34E] ++ consOrbit1
end Go.Proofs.Ytmpaelkjooahoaa
