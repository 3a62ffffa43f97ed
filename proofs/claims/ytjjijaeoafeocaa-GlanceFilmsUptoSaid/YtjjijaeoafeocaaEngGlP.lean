/- Letters; pictures that may be. No condition. -/
import Derived.Test.YtjjijaeoafeocaaEngGl3
import Derived.Test.YtjjijaeoafeocaaEngGlB
import Derived.Test.YtjjijaeoafeocaaLoopA
set_option linter.unusedVariables false
set_option linter.unusedSimpArgs false
namespace Go.Proofs.Ytjjijaeoafeocaa
open Go.RowKit

noncomputable def ltr_O (v : Int) : Out := ⟨.sv (.one (.val false (.int .u8 v))), [], 2, []⟩
noncomputable def ltr_rd (out : Out) : Option (Int) := some (rI (rvC out.v 0 0))
noncomputable def ltr_res (x0_0 x0_1 x0_2 : Int) : Option (Int) := bif (decide ((0 : Int) ≤ IntKind.i64.wrap ((IntKind.i64.wrap (IntKind.i64.wrap ((IntKind.i64.wrap (IntKind.i64.wrap (IntKind.i64.wrap ((2 : Int) * IntKind.i64.wrap x0_0) + IntKind.i64.wrap ((5 : Int) * IntKind.i64.wrap x0_1)) + IntKind.i64.wrap x0_2)).tdiv (8 : Int)) * (10 : Int))).tdiv (256 : Int)) ∧ IntKind.i64.wrap ((IntKind.i64.wrap (IntKind.i64.wrap ((IntKind.i64.wrap (IntKind.i64.wrap (IntKind.i64.wrap ((2 : Int) * IntKind.i64.wrap x0_0) + IntKind.i64.wrap ((5 : Int) * IntKind.i64.wrap x0_1)) + IntKind.i64.wrap x0_2)).tdiv (8 : Int)) * (10 : Int))).tdiv (256 : Int)) < (↑(ByteArray.mk #[(32 : UInt8), (46 : UInt8), (58 : UInt8), (45 : UInt8), (61 : UInt8), (43 : UInt8), (42 : UInt8), (35 : UInt8), (37 : UInt8), (64 : UInt8)]).size : Int))) then some (↑((ByteArray.mk #[(32 : UInt8), (46 : UInt8), (58 : UInt8), (45 : UInt8), (61 : UInt8), (43 : UInt8), (42 : UInt8), (35 : UInt8), (37 : UInt8), (64 : UInt8)]).data.toList.getD (IntKind.i64.wrap ((IntKind.i64.wrap (IntKind.i64.wrap ((IntKind.i64.wrap (IntKind.i64.wrap (IntKind.i64.wrap ((2 : Int) * IntKind.i64.wrap x0_0) + IntKind.i64.wrap ((5 : Int) * IntKind.i64.wrap x0_1)) + IntKind.i64.wrap x0_2)).tdiv (8 : Int)) * (10 : Int))).tdiv (256 : Int))).toNat (0 : UInt8)).toNat : Int) else none
set_option maxRecDepth 100000 in
theorem ltr_tree {x0_0 x0_1 x0_2 v : Int} (h : ltr_res x0_0 x0_1 x0_2 = some v) : CallOk Try.prog 29 [.sv (.agg [.val false (.int .u8 x0_0), .val false (.int .u8 x0_1), .val false (.int .u8 x0_2)])] [] 0 (ltr_O v) :=
  eng_tree (C := (⟨[], fun _ _ _ => none, fun f => false, noFacts, fun _ => 104⟩ : Cfg Try.prog)) noFacts_ok (n := 30) (f := 29) ltr_O ltr_rd rfl (by kernel_rfl) h
noncomputable def ltr_v (x0_0 x0_1 x0_2 : Int) : Int := (ltr_res x0_0 x0_1 x0_2).getD default
theorem ltr_spec (x0_0 x0_1 x0_2 : Int) (h : ((ltr_res x0_0 x0_1 x0_2).isSome) = true) : ltr_res x0_0 x0_1 x0_2 = some (ltr_v x0_0 x0_1 x0_2) := opt_get h
noncomputable def ltr_m (args : List RV) (hp : Hp) : Option ((Int × Int × Int) × List Nat) := match args with
  | [.sv (.agg [.val _ (.int .u8 x0_0), .val _ (.int .u8 x0_1), .val _ (.int .u8 x0_2)])] => some ((x0_0, x0_1, x0_2), [])
  | _ => none
noncomputable def ltr_con : Con Try.prog := conX Try.prog 29 ltr_m 0 (fun x => [.sv (.agg [.val false (.int .u8 x.1), .val false (.int .u8 x.2.1), .val false (.int .u8 x.2.2)])]) (fun x => []) (fun x => some ((ltr_res x.1 x.2.1 x.2.2).isSome)) (fun x => ltr_O (ltr_v x.1 x.2.1 x.2.2))
  (by
    intro args hp x r h
    unfold ltr_m at h
    split at h
    · cases h
      exact ⟨rfl, fun nx => ⟨rfl, (fun i hi => by cases hi), fun id o0 ho => by simp [hlook] at ho⟩⟩
    · cases h)
  (fun x h => ⟨rfl, rfl, ltr_tree (ltr_spec x.1 x.2.1 x.2.2 (h _ rfl))⟩)

noncomputable def rlt_O (v : Int) : Out := ⟨.sv (.one (.val false (.int .u8 v))), [], 3, []⟩
noncomputable def rlt_rd (out : Out) : Option (Int) := some (rI (rvC out.v 0 0))
noncomputable def rlt_res (x0_0 x0_1 x0_2 : Int) : Option (Int) := bif (decide ((0 : Int) ≤ IntKind.i64.wrap ((IntKind.i64.wrap (IntKind.i64.wrap ((IntKind.i64.wrap (IntKind.i64.wrap (IntKind.i64.wrap ((2 : Int) * IntKind.i64.wrap x0_0) + IntKind.i64.wrap ((5 : Int) * IntKind.i64.wrap x0_1)) + IntKind.i64.wrap x0_2)).tdiv (8 : Int)) * (10 : Int))).tdiv (256 : Int)) ∧ IntKind.i64.wrap ((IntKind.i64.wrap (IntKind.i64.wrap ((IntKind.i64.wrap (IntKind.i64.wrap (IntKind.i64.wrap ((2 : Int) * IntKind.i64.wrap x0_0) + IntKind.i64.wrap ((5 : Int) * IntKind.i64.wrap x0_1)) + IntKind.i64.wrap x0_2)).tdiv (8 : Int)) * (10 : Int))).tdiv (256 : Int)) < (↑[[Ct.i (32 : Int)], [Ct.i (46 : Int)], [Ct.i (58 : Int)], [Ct.i (45 : Int)], [Ct.i (61 : Int)], [Ct.i (43 : Int)], [Ct.i (42 : Int)], [Ct.i (35 : Int)], [Ct.i (37 : Int)], [Ct.i (64 : Int)]].length : Int))) then some ((rd [[Ct.i (32 : Int)], [Ct.i (46 : Int)], [Ct.i (58 : Int)], [Ct.i (45 : Int)], [Ct.i (61 : Int)], [Ct.i (43 : Int)], [Ct.i (42 : Int)], [Ct.i (35 : Int)], [Ct.i (37 : Int)], [Ct.i (64 : Int)]] (IntKind.i64.wrap ((IntKind.i64.wrap (IntKind.i64.wrap ((IntKind.i64.wrap (IntKind.i64.wrap (IntKind.i64.wrap ((2 : Int) * IntKind.i64.wrap x0_0) + IntKind.i64.wrap ((5 : Int) * IntKind.i64.wrap x0_1)) + IntKind.i64.wrap x0_2)).tdiv (8 : Int)) * (10 : Int))).tdiv (256 : Int))).toNat 0).int) else none
set_option maxRecDepth 100000 in
theorem rlt_tree {x0_0 x0_1 x0_2 v : Int} (h : rlt_res x0_0 x0_1 x0_2 = some v) : CallOk Try.prog 32 [.sv (.agg [.val false (.int .u8 x0_0), .val false (.int .u8 x0_1), .val false (.int .u8 x0_2)])] [] 0 (rlt_O v) :=
  eng_tree (C := (⟨[], fun _ _ _ => none, fun f => ⟨false, Nat.beq f 32⟩, noFacts, fun _ => 104⟩ : Cfg Try.prog)) noFacts_ok (n := 30) (f := 32) rlt_O rlt_rd rfl (by kernel_rfl) h
noncomputable def rlt_v (x0_0 x0_1 x0_2 : Int) : Int := (rlt_res x0_0 x0_1 x0_2).getD default
theorem rlt_spec (x0_0 x0_1 x0_2 : Int) (h : ((rlt_res x0_0 x0_1 x0_2).isSome) = true) : rlt_res x0_0 x0_1 x0_2 = some (rlt_v x0_0 x0_1 x0_2) := opt_get h
noncomputable def rlt_m (args : List RV) (hp : Hp) : Option ((Int × Int × Int) × List Nat) := match args with
  | [.sv (.agg [.val _ (.int .u8 x0_0), .val _ (.int .u8 x0_1), .val _ (.int .u8 x0_2)])] => some ((x0_0, x0_1, x0_2), [])
  | _ => none
noncomputable def rlt_con : Con Try.prog := conX Try.prog 32 rlt_m 0 (fun x => [.sv (.agg [.val false (.int .u8 x.1), .val false (.int .u8 x.2.1), .val false (.int .u8 x.2.2)])]) (fun x => []) (fun x => some ((rlt_res x.1 x.2.1 x.2.2).isSome)) (fun x => rlt_O (rlt_v x.1 x.2.1 x.2.2))
  (by
    intro args hp x r h
    unfold rlt_m at h
    split at h
    · cases h
      exact ⟨rfl, fun nx => ⟨rfl, (fun i hi => by cases hi), fun id o0 ho => by simp [hlook] at ho⟩⟩
    · cases h)
  (fun x h => ⟨rfl, rfl, rlt_tree (rlt_spec x.1 x.2.1 x.2.2 (h _ rfl))⟩)

noncomputable def rsz_O (v : Bool) : Out := ⟨.sv (.one (.val false (.bool v))), [], 3, []⟩
noncomputable def rsz_rd (out : Out) : Option (Bool) := some (rB (rvC out.v 0 0))
noncomputable def rsz_res (x0 : Int) (x1 : Int) : Option (Bool) := some (bif decide (x0 ≥ (1 : Int)) then bif decide (x0 ≤ (64 : Int)) then bif decide (x1 ≥ (1 : Int)) then decide (x1 ≤ (64 : Int)) else false else false else false)
set_option maxRecDepth 100000 in
theorem rsz_tree {x0 : Int} {x1 : Int} {v : Bool} (h : rsz_res x0 x1 = some v) : CallOk Try.prog 31 [.sv (.one (.val false (.int .i64 x0))), .sv (.one (.val false (.int .i64 x1)))] [] 0 (rsz_O v) :=
  eng_tree (C := (⟨[], fun _ _ _ => none, fun f => false, noFacts, fun _ => 104⟩ : Cfg Try.prog)) noFacts_ok (n := 30) (f := 31) rsz_O rsz_rd rfl (by kernel_rfl) h
noncomputable def rsz_v (x0 : Int) (x1 : Int) : Bool := bif decide (x0 ≥ (1 : Int)) then bif decide (x0 ≤ (64 : Int)) then bif decide (x1 ≥ (1 : Int)) then decide (x1 ≤ (64 : Int)) else false else false else false
theorem rsz_spec (x0 : Int) (x1 : Int) : rsz_res x0 x1 = some (rsz_v x0 x1) := by simp only [rsz_res, rsz_v, cond_some]
noncomputable def rsz_m (args : List RV) (hp : Hp) : Option ((Int × Int) × List Nat) := match args with
  | [.sv (.one (.val _ (.int .i64 x0))), .sv (.one (.val _ (.int .i64 x1)))] => some ((x0, x1), [])
  | _ => none
noncomputable def rsz_con : Con Try.prog := conX Try.prog 31 rsz_m 0 (fun x => [.sv (.one (.val false (.int .i64 x.1))), .sv (.one (.val false (.int .i64 x.2)))]) (fun x => []) (fun x => none) (fun x => rsz_O (rsz_v x.1 x.2))
  (by
    intro args hp x r h
    unfold rsz_m at h
    split at h
    · cases h
      exact ⟨rfl, fun nx => ⟨rfl, (fun i hi => by cases hi), fun id o0 ho => by simp [hlook] at ho⟩⟩
    · cases h)
  (fun x h => ⟨rfl, rfl, rsz_tree (rsz_spec x.1 x.2)⟩)

noncomputable def pri_O (v : Bool) : Out := ⟨.sv (.one (.val false (.bool v))), [], 8, []⟩
noncomputable def pri_rd (out : Out) : Option (Bool) := some (rB (rvC out.v 0 0))
noncomputable def pri_res (x0_0 : Int) (x0_1 : Int) (x0_2 : List (List Ct)) : Option (Bool) := some (bif bif decide (x0_0 ≥ (1 : Int)) then bif decide (x0_0 ≤ (64 : Int)) then bif decide (x0_1 ≥ (1 : Int)) then decide (x0_1 ≤ (64 : Int)) else false else false else false then (↑x0_2.length : Int) == IntKind.i64.wrap (x0_0 * x0_1) else false)
set_option maxRecDepth 100000 in
theorem pri_tree {x0_0 : Int} {x0_1 : Int} {x0_2 : List (List Ct)} {v : Bool} (h : pri_res x0_0 x0_1 x0_2 = some v) : CallOk Try.prog 27 [.sv (.agg [.val false (.int .i64 x0_0), .val false (.int .i64 x0_1), .ext 0])] [(0, .grid [.int .u8, .int .u8, .int .u8] x0_2)] 1 (pri_O v) :=
  eng_tree (C := (⟨[], fun _ _ _ => none, fun f => false, noFacts, fun _ => 104⟩ : Cfg Try.prog)) noFacts_ok (n := 30) (f := 27) pri_O pri_rd rfl (by kernel_rfl) h
noncomputable def pri_v (x0_0 : Int) (x0_1 : Int) (x0_2 : List (List Ct)) : Bool := (pri_res x0_0 x0_1 x0_2).getD default
theorem pri_spec (x0_0 : Int) (x0_1 : Int) (x0_2 : List (List Ct)) (h : ((pri_res x0_0 x0_1 x0_2).isSome) = true) : pri_res x0_0 x0_1 x0_2 = some (pri_v x0_0 x0_1 x0_2) := opt_get h
noncomputable def pri_m (args : List RV) (hp : Hp) : Option ((Int × Int × List (List Ct)) × List Nat) := match args with
  | [.sv (.agg [.val _ (.int .i64 x0_0), .val _ (.int .i64 x0_1), .ext i0])] => (match gridAt hp i0 [.int .u8, .int .u8, .int .u8] with
    | some x0_2 => some ((x0_0, x0_1, x0_2), [i0])
    | _ => none)
  | _ => none
noncomputable def pri_con : Con Try.prog := conX Try.prog 27 pri_m 1 (fun x => [.sv (.agg [.val false (.int .i64 x.1), .val false (.int .i64 x.2.1), .ext 0])]) (fun x => [(0, .grid [.int .u8, .int .u8, .int .u8] x.2.2)]) (fun x => some ((pri_res x.1 x.2.1 x.2.2).isSome)) (fun x => pri_O (pri_v x.1 x.2.1 x.2.2))
  (by
    intro args hp x r h
    unfold pri_m at h
    split at h
    · split at h
      · rename_i g0
        cases h
        refine ⟨rfl, fun nx => ⟨rfl, ?_, ?_⟩⟩
        · intro i hi
          simp only [List.mem_cons, List.not_mem_nil, or_false] at hi
          rcases hi with rfl
          · exact ⟨_, List.mem_of_getElem? (i := 0) rfl, .inl (by simp [RV.ids, SV.ids, CV.ids])⟩
        · intro id o0 ho
          have := hlook_mem ho
          simp only [List.mem_cons, Prod.mk.injEq, List.not_mem_nil, or_false] at this
          rcases this with ⟨rfl, rfl⟩
          · exact ⟨_, gridAt_spec g0, rfl⟩
      · cases h
    · cases h)
  (fun x h => ⟨rfl, rfl, pri_tree (pri_spec x.1 x.2.1 x.2.2 (h _ rfl))⟩)

noncomputable def rri_O (v : Bool) : Out := ⟨.sv (.one (.val false (.bool v))), [], 6, []⟩
noncomputable def rri_rd (out : Out) : Option (Bool) := some (rB (rvC out.v 0 0))
noncomputable def rri_res (x0_0 : Int) (x0_1 : Int) (x0_2 : List (List Ct)) : Option (Bool) := some (bif bif decide (x0_0 ≥ (1 : Int)) then bif decide (x0_0 ≤ (64 : Int)) then bif decide (x0_1 ≥ (1 : Int)) then decide (x0_1 ≤ (64 : Int)) else false else false else false then (↑x0_2.length : Int) == IntKind.i64.wrap (x0_0 * x0_1) else false)
set_option maxRecDepth 100000 in
theorem rri_tree {x0_0 : Int} {x0_1 : Int} {x0_2 : List (List Ct)} {v : Bool} (h : rri_res x0_0 x0_1 x0_2 = some v) : CallOk Try.prog 15 [.sv (.agg [.val false (.int .i64 x0_0), .val false (.int .i64 x0_1), .ext 0])] [(0, .grid [.int .u8, .int .u8, .int .u8] x0_2)] 1 (rri_O v) :=
  eng_tree (C := (⟨[], fun _ _ _ => none, fun f => false, noFacts, fun _ => 104⟩ : Cfg Try.prog)) noFacts_ok (n := 30) (f := 15) rri_O rri_rd rfl (by kernel_rfl) h
noncomputable def rri_v (x0_0 : Int) (x0_1 : Int) (x0_2 : List (List Ct)) : Bool := (rri_res x0_0 x0_1 x0_2).getD default
theorem rri_spec (x0_0 : Int) (x0_1 : Int) (x0_2 : List (List Ct)) (h : ((rri_res x0_0 x0_1 x0_2).isSome) = true) : rri_res x0_0 x0_1 x0_2 = some (rri_v x0_0 x0_1 x0_2) := opt_get h
noncomputable def rri_m (args : List RV) (hp : Hp) : Option ((Int × Int × List (List Ct)) × List Nat) := match args with
  | [.sv (.agg [.val _ (.int .i64 x0_0), .val _ (.int .i64 x0_1), .ext i0])] => (match gridAt hp i0 [.int .u8, .int .u8, .int .u8] with
    | some x0_2 => some ((x0_0, x0_1, x0_2), [i0])
    | _ => none)
  | _ => none
noncomputable def rri_con : Con Try.prog := conX Try.prog 15 rri_m 1 (fun x => [.sv (.agg [.val false (.int .i64 x.1), .val false (.int .i64 x.2.1), .ext 0])]) (fun x => [(0, .grid [.int .u8, .int .u8, .int .u8] x.2.2)]) (fun x => some ((rri_res x.1 x.2.1 x.2.2).isSome)) (fun x => rri_O (rri_v x.1 x.2.1 x.2.2))
  (by
    intro args hp x r h
    unfold rri_m at h
    split at h
    · split at h
      · rename_i g0
        cases h
        refine ⟨rfl, fun nx => ⟨rfl, ?_, ?_⟩⟩
        · intro i hi
          simp only [List.mem_cons, List.not_mem_nil, or_false] at hi
          rcases hi with rfl
          · exact ⟨_, List.mem_of_getElem? (i := 0) rfl, .inl (by simp [RV.ids, SV.ids, CV.ids])⟩
        · intro id o0 ho
          have := hlook_mem ho
          simp only [List.mem_cons, Prod.mk.injEq, List.not_mem_nil, or_false] at this
          rcases this with ⟨rfl, rfl⟩
          · exact ⟨_, gridAt_spec g0, rfl⟩
      · cases h
    · cases h)
  (fun x h => ⟨rfl, rfl, rri_tree (rri_spec x.1 x.2.1 x.2.2 (h _ rfl))⟩)

noncomputable def pto_O (v : Int × Int × List (List Ct)) : Out := ⟨.sv (.agg [.val false (.int .i64 v.1), .val false (.int .i64 v.2.1), .ext 4]), [(4, .row ((fun s => (List.replicate 3 s).flatten) [Sh.int IntKind.u8]) 32 v.2.2)], 5, []⟩
noncomputable def pto_rd (out : Out) : Option (Int × Int × List (List Ct)) := some (rI (rvC out.v 0 0), rI (rvC out.v 0 1), hpL' out.up 4)
noncomputable def pto_res (x0_0 : Int) (x0_1 : Int) (x0_2 : List (List Ct)) : Option (Int × Int × List (List Ct)) := bif (decide (0 + x0_2.length ≤ 9223372036854775807 ∧ (0 + x0_2.length) * 3 ≤ 140737488355328)) then some (x0_0, x0_1, [] ++ x0_2) else none
set_option maxRecDepth 100000 in
theorem pto_tree {x0_0 : Int} {x0_1 : Int} {x0_2 : List (List Ct)} {v : Int × Int × List (List Ct)} (h : pto_res x0_0 x0_1 x0_2 = some v) : CallOk Try.prog 14 [.sv (.agg [.val false (.int .i64 x0_0), .val false (.int .i64 x0_1), .ext 0])] [(0, .grid [.int .u8, .int .u8, .int .u8] x0_2)] 1 (pto_O v) :=
  eng_tree (C := (⟨[], fun _ _ _ => none, fun f => false, noFacts, fun _ => 104⟩ : Cfg Try.prog)) noFacts_ok (n := 30) (f := 14) pto_O pto_rd rfl (by kernel_rfl) h
noncomputable def pto_v (x0_0 : Int) (x0_1 : Int) (x0_2 : List (List Ct)) : Int × Int × List (List Ct) := (pto_res x0_0 x0_1 x0_2).getD default
theorem pto_spec (x0_0 : Int) (x0_1 : Int) (x0_2 : List (List Ct)) (h : ((pto_res x0_0 x0_1 x0_2).isSome) = true) : pto_res x0_0 x0_1 x0_2 = some (pto_v x0_0 x0_1 x0_2) := opt_get h
noncomputable def pto_m (args : List RV) (hp : Hp) : Option ((Int × Int × List (List Ct)) × List Nat) := match args with
  | [.sv (.agg [.val _ (.int .i64 x0_0), .val _ (.int .i64 x0_1), .ext i0])] => (match gridAt hp i0 [.int .u8, .int .u8, .int .u8] with
    | some x0_2 => some ((x0_0, x0_1, x0_2), [i0])
    | _ => none)
  | _ => none
noncomputable def pto_con : Con Try.prog := conX Try.prog 14 pto_m 1 (fun x => [.sv (.agg [.val false (.int .i64 x.1), .val false (.int .i64 x.2.1), .ext 0])]) (fun x => [(0, .grid [.int .u8, .int .u8, .int .u8] x.2.2)]) (fun x => some ((pto_res x.1 x.2.1 x.2.2).isSome)) (fun x => pto_O (pto_v x.1 x.2.1 x.2.2))
  (by
    intro args hp x r h
    unfold pto_m at h
    split at h
    · split at h
      · rename_i g0
        cases h
        refine ⟨rfl, fun nx => ⟨rfl, ?_, ?_⟩⟩
        · intro i hi
          simp only [List.mem_cons, List.not_mem_nil, or_false] at hi
          rcases hi with rfl
          · exact ⟨_, List.mem_of_getElem? (i := 0) rfl, .inl (by simp [RV.ids, SV.ids, CV.ids])⟩
        · intro id o0 ho
          have := hlook_mem ho
          simp only [List.mem_cons, Prod.mk.injEq, List.not_mem_nil, or_false] at this
          rcases this with ⟨rfl, rfl⟩
          · exact ⟨_, gridAt_spec g0, rfl⟩
      · cases h
    · cases h)
  (fun x h => ⟨rfl, rfl, pto_tree (pto_spec x.1 x.2.1 x.2.2 (h _ rfl))⟩)
noncomputable def consGlP : List (Con Try.prog) := [ltr_con, rlt_con, pri_con, rri_con, pto_con.freezeR.freezeO] ++ consGlB ++ consGl3
end Go.Proofs.Ytjjijaeoafeocaa
