/- Headers, paints, tracks that may be. No condition. -/
import Derived.Test.YtcpbiijegbbafaaEngScene
import Derived.Test.YtcpbiijegbbafaaLoopA
set_option linter.unusedVariables false
set_option linter.unusedSimpArgs false
namespace Go.Proofs.Ytcpbiijegbbafaa
open Go.RowKit

theorem opt_get {α : Type} [Inhabited α] {o : Option α} (h : o.isSome = true) : o = some (o.getD default) := by cases o with | none => cases h | some v => rfl

noncomputable def shr_O (v : Bool) : Out := ⟨.sv (.one (.val false (.bool v))), [], 20, []⟩
noncomputable def shr_rd (out : Out) : Option (Bool) := some (rB (rvC out.v 0 0))
noncomputable def shr_res (u0 u1 u2 u3 u4 u5 u7 u8 u9 : Int) : Option (Bool) := bif (decide (u0 ≥ (1 : Int))) then (bif (decide (u0 ≤ (64 : Int))) then (bif (decide (u1 ≥ (1 : Int))) then (bif (decide (u1 ≤ (64 : Int))) then (bif (decide (u2 ≥ (1 : Int))) then (bif (decide (u2 ≤ (16 : Int))) then (bif (decide (u3 ≥ (1 : Int))) then (bif (decide (u3 ≤ (6 : Int))) then (bif (decide (u4 ≥ (1 : Int))) then (bif (decide (u4 ≤ (32 : Int))) then (bif (decide (u5 ≥ (0 : Int))) then (bif (decide (u5 ≤ (65536 : Int))) then (bif (decide (u7 < (0 : Int))) then (some false) else bif (decide (u7 > (1048576 : Int))) then (some false) else bif (decide (u8 < (0 : Int))) then (some false) else bif (decide (u8 > (1048576 : Int))) then (some false) else bif (decide (u9 < (0 : Int))) then (some false) else bif (decide (u9 > (1048576 : Int))) then (some false) else some true) else some false) else some false) else some false) else some false) else some false) else some false) else some false) else some false) else some false) else some false) else some false) else some false
set_option maxRecDepth 100000 in
theorem shr_tree {u0 u1 u2 u3 u4 u5 u6 u7 u8 u9 : Int} {v : Bool} (h : shr_res u0 u1 u2 u3 u4 u5 u7 u8 u9 = some v) : CallOk Try.prog 68 [.sv (.agg [.val false (.int .i64 u0), .val false (.int .i64 u1), .val false (.int .i64 u2), .val false (.int .i64 u3), .val false (.int .i64 u4), .val false (.int .i64 u5), .val false (.int .u64 u6), .val false (.int .i64 u7), .val false (.int .i64 u8), .val false (.int .i64 u9)])] [] 0 (shr_O v) :=
  eng_tree (C := (⟨consScene, fun _ _ _ => none, fun f => false, noFacts, fun _ => 4⟩ : Cfg Try.prog)) noFacts_ok (n := 30) (f := 68) shr_O shr_rd rfl (by kernel_rfl) h
noncomputable def shr_v (u0 u1 u2 u3 u4 u5 u7 u8 u9 : Int) : Bool := (shr_res u0 u1 u2 u3 u4 u5 u7 u8 u9).getD default
theorem shr_spec (u0 u1 u2 u3 u4 u5 u7 u8 u9 : Int) (h : ((shr_res u0 u1 u2 u3 u4 u5 u7 u8 u9).isSome) = true) : shr_res u0 u1 u2 u3 u4 u5 u7 u8 u9 = some (shr_v u0 u1 u2 u3 u4 u5 u7 u8 u9) := opt_get h
noncomputable def shr_as : List ASh := [.agg [.int .i64, .int .i64, .int .i64, .int .i64, .int .i64, .int .i64, .int .u64, .int .i64, .int .i64, .int .i64]]
noncomputable def shr_con : Con Try.prog := conS Try.prog 68 shr_as (fun x => some ((shr_res (x.getD 0 (.i 0)).int (x.getD 1 (.i 0)).int (x.getD 2 (.i 0)).int (x.getD 3 (.i 0)).int (x.getD 4 (.i 0)).int (x.getD 5 (.i 0)).int (x.getD 7 (.i 0)).int (x.getD 8 (.i 0)).int (x.getD 9 (.i 0)).int).isSome)) (fun x => shr_O (shr_v (x.getD 0 (.i 0)).int (x.getD 1 (.i 0)).int (x.getD 2 (.i 0)).int (x.getD 3 (.i 0)).int (x.getD 4 (.i 0)).int (x.getD 5 (.i 0)).int (x.getD 7 (.i 0)).int (x.getD 8 (.i 0)).int (x.getD 9 (.i 0)).int))
  (fun x h => ⟨by kernel_rfl, by kernel_rfl, Eq.mp (by kernel_rfl) (@shr_tree ((x.getD 0 (.i 0)).int) ((x.getD 1 (.i 0)).int) ((x.getD 2 (.i 0)).int) ((x.getD 3 (.i 0)).int) ((x.getD 4 (.i 0)).int) ((x.getD 5 (.i 0)).int) ((x.getD 6 (.i 0)).int) ((x.getD 7 (.i 0)).int) ((x.getD 8 (.i 0)).int) ((x.getD 9 (.i 0)).int) _ (shr_spec ((x.getD 0 (.i 0)).int) ((x.getD 1 (.i 0)).int) ((x.getD 2 (.i 0)).int) ((x.getD 3 (.i 0)).int) ((x.getD 4 (.i 0)).int) ((x.getD 5 (.i 0)).int) ((x.getD 7 (.i 0)).int) ((x.getD 8 (.i 0)).int) ((x.getD 9 (.i 0)).int) (h _ rfl)))⟩)

noncomputable def rhr_O (v : Bool) : Out := ⟨.sv (.one (.val false (.bool v))), [], 20, []⟩
noncomputable def rhr_rd (out : Out) : Option (Bool) := some (rB (rvC out.v 0 0))
noncomputable def rhr_res (u0 u1 u2 u3 u4 u5 u7 u8 u9 : Int) : Option (Bool) := bif (decide (u0 ≥ (1 : Int))) then (bif (decide (u0 ≤ (64 : Int))) then (bif (decide (u1 ≥ (1 : Int))) then (bif (decide (u1 ≤ (64 : Int))) then (bif (decide (u2 ≥ (1 : Int))) then (bif (decide (u2 ≤ (16 : Int))) then (bif (decide (u3 ≥ (1 : Int))) then (bif (decide (u3 ≤ (6 : Int))) then (bif (decide (u4 ≥ (1 : Int))) then (bif (decide (u4 ≤ (32 : Int))) then (bif (decide (u5 ≥ (0 : Int))) then (bif (decide (u5 ≤ (65536 : Int))) then (bif (decide (u7 < (0 : Int))) then (some false) else bif (decide (u7 > (1048576 : Int))) then (some false) else bif (decide (u8 < (0 : Int))) then (some false) else bif (decide (u8 > (1048576 : Int))) then (some false) else bif (decide (u9 < (0 : Int))) then (some false) else bif (decide (u9 > (1048576 : Int))) then (some false) else some true) else some false) else some false) else some false) else some false) else some false) else some false) else some false) else some false) else some false) else some false) else some false) else some false
set_option maxRecDepth 100000 in
theorem rhr_tree {u0 u1 u2 u3 u4 u5 u6 u7 u8 u9 : Int} {v : Bool} (h : rhr_res u0 u1 u2 u3 u4 u5 u7 u8 u9 = some v) : CallOk Try.prog 104 [.sv (.agg [.val false (.int .i64 u0), .val false (.int .i64 u1), .val false (.int .i64 u2), .val false (.int .i64 u3), .val false (.int .i64 u4), .val false (.int .i64 u5), .val false (.int .u64 u6), .val false (.int .i64 u7), .val false (.int .i64 u8), .val false (.int .i64 u9)])] [] 0 (rhr_O v) :=
  eng_tree (C := (⟨consScene, fun _ _ _ => none, fun f => false, noFacts, fun _ => 4⟩ : Cfg Try.prog)) noFacts_ok (n := 30) (f := 104) rhr_O rhr_rd rfl (by kernel_rfl) h
noncomputable def rhr_v (u0 u1 u2 u3 u4 u5 u7 u8 u9 : Int) : Bool := (rhr_res u0 u1 u2 u3 u4 u5 u7 u8 u9).getD default
theorem rhr_spec (u0 u1 u2 u3 u4 u5 u7 u8 u9 : Int) (h : ((rhr_res u0 u1 u2 u3 u4 u5 u7 u8 u9).isSome) = true) : rhr_res u0 u1 u2 u3 u4 u5 u7 u8 u9 = some (rhr_v u0 u1 u2 u3 u4 u5 u7 u8 u9) := opt_get h
noncomputable def rhr_as : List ASh := [.agg [.int .i64, .int .i64, .int .i64, .int .i64, .int .i64, .int .i64, .int .u64, .int .i64, .int .i64, .int .i64]]
noncomputable def rhr_con : Con Try.prog := conS Try.prog 104 rhr_as (fun x => some ((rhr_res (x.getD 0 (.i 0)).int (x.getD 1 (.i 0)).int (x.getD 2 (.i 0)).int (x.getD 3 (.i 0)).int (x.getD 4 (.i 0)).int (x.getD 5 (.i 0)).int (x.getD 7 (.i 0)).int (x.getD 8 (.i 0)).int (x.getD 9 (.i 0)).int).isSome)) (fun x => rhr_O (rhr_v (x.getD 0 (.i 0)).int (x.getD 1 (.i 0)).int (x.getD 2 (.i 0)).int (x.getD 3 (.i 0)).int (x.getD 4 (.i 0)).int (x.getD 5 (.i 0)).int (x.getD 7 (.i 0)).int (x.getD 8 (.i 0)).int (x.getD 9 (.i 0)).int))
  (fun x h => ⟨by kernel_rfl, by kernel_rfl, Eq.mp (by kernel_rfl) (@rhr_tree ((x.getD 0 (.i 0)).int) ((x.getD 1 (.i 0)).int) ((x.getD 2 (.i 0)).int) ((x.getD 3 (.i 0)).int) ((x.getD 4 (.i 0)).int) ((x.getD 5 (.i 0)).int) ((x.getD 6 (.i 0)).int) ((x.getD 7 (.i 0)).int) ((x.getD 8 (.i 0)).int) ((x.getD 9 (.i 0)).int) _ (rhr_spec ((x.getD 0 (.i 0)).int) ((x.getD 1 (.i 0)).int) ((x.getD 2 (.i 0)).int) ((x.getD 3 (.i 0)).int) ((x.getD 4 (.i 0)).int) ((x.getD 5 (.i 0)).int) ((x.getD 7 (.i 0)).int) ((x.getD 8 (.i 0)).int) ((x.getD 9 (.i 0)).int) (h _ rfl)))⟩)

noncomputable def spr_O (v : Bool) : Out := ⟨.sv (.one (.val false (.bool v))), [], 11, []⟩
noncomputable def spr_rd (out : Out) : Option (Bool) := some (rB (rvC out.v 0 0))
noncomputable def spr_res (u0 u1 u2 u3 u4 : Int) : Option (Bool) := bif (decide (u0 ≥ (0 : Int))) then (bif (decide (u0 ≤ (3 : Int))) then (bif (decide (u1 < (0 : Int))) then (some false) else bif (decide (u1 > (1048576 : Int))) then (some false) else bif (decide (u2 < (0 : Int))) then (some false) else bif (decide (u2 > (1048576 : Int))) then (some false) else bif (decide (u3 < (0 : Int))) then (some false) else bif (decide (u3 > (1048576 : Int))) then (some false) else bif (decide (u4 ≥ (0 : Int))) then (some (decide (u4 ≤ (65536 : Int)))) else some false) else some false) else some false
set_option maxRecDepth 100000 in
theorem spr_tree {u0 u1 u2 u3 u4 : Int} {v : Bool} (h : spr_res u0 u1 u2 u3 u4 = some v) : CallOk Try.prog 70 [.sv (.agg [.val false (.int .i64 u0), .val false (.int .i64 u1), .val false (.int .i64 u2), .val false (.int .i64 u3), .val false (.int .i64 u4)])] [] 0 (spr_O v) :=
  eng_tree (C := (⟨consScene, fun _ _ _ => none, fun f => false, noFacts, fun _ => 4⟩ : Cfg Try.prog)) noFacts_ok (n := 30) (f := 70) spr_O spr_rd rfl (by kernel_rfl) h
noncomputable def spr_v (u0 u1 u2 u3 u4 : Int) : Bool := (spr_res u0 u1 u2 u3 u4).getD default
theorem spr_spec (u0 u1 u2 u3 u4 : Int) (h : ((spr_res u0 u1 u2 u3 u4).isSome) = true) : spr_res u0 u1 u2 u3 u4 = some (spr_v u0 u1 u2 u3 u4) := opt_get h
noncomputable def spr_m (args : List RV) (hp : Hp) : Option ((Int × Int × Int × Int × Int) × List Nat) := match args with
  | [.sv (.agg [.val _ (.int .i64 u0), .val _ (.int .i64 u1), .val _ (.int .i64 u2), .val _ (.int .i64 u3), .val _ (.int .i64 u4)])] => some ((u0, u1, u2, u3, u4), [])
  | _ => none
noncomputable def spr_con : Con Try.prog := conX Try.prog 70 spr_m 0 (fun x => [.sv (.agg [.val false (.int .i64 x.1), .val false (.int .i64 x.2.1), .val false (.int .i64 x.2.2.1), .val false (.int .i64 x.2.2.2.1), .val false (.int .i64 x.2.2.2.2)])]) (fun x => []) (fun x => some ((spr_res x.1 x.2.1 x.2.2.1 x.2.2.2.1 x.2.2.2.2).isSome)) (fun x => spr_O (spr_v x.1 x.2.1 x.2.2.1 x.2.2.2.1 x.2.2.2.2))
  (by
    intro args hp x r h
    unfold spr_m at h
    split at h
    · cases h
      exact ⟨rfl, fun nx => ⟨rfl, (fun i hi => by cases hi), fun id o0 ho => by simp [hlook] at ho⟩⟩
    · cases h)
  (fun x h => ⟨rfl, rfl, spr_tree (spr_spec x.1 x.2.1 x.2.2.1 x.2.2.2.1 x.2.2.2.2 (h _ rfl))⟩)

noncomputable def rpr_O (v : Bool) : Out := ⟨.sv (.one (.val false (.bool v))), [], 11, []⟩
noncomputable def rpr_rd (out : Out) : Option (Bool) := some (rB (rvC out.v 0 0))
noncomputable def rpr_res (u0 u1 u2 u3 u4 : Int) : Option (Bool) := bif (decide (u0 ≥ (0 : Int))) then (bif (decide (u0 ≤ (3 : Int))) then (bif (decide (u1 < (0 : Int))) then (some false) else bif (decide (u1 > (1048576 : Int))) then (some false) else bif (decide (u2 < (0 : Int))) then (some false) else bif (decide (u2 > (1048576 : Int))) then (some false) else bif (decide (u3 < (0 : Int))) then (some false) else bif (decide (u3 > (1048576 : Int))) then (some false) else bif (decide (u4 ≥ (0 : Int))) then (some (decide (u4 ≤ (65536 : Int)))) else some false) else some false) else some false
set_option maxRecDepth 100000 in
theorem rpr_tree {u0 u1 u2 u3 u4 : Int} {v : Bool} (h : rpr_res u0 u1 u2 u3 u4 = some v) : CallOk Try.prog 105 [.sv (.agg [.val false (.int .i64 u0), .val false (.int .i64 u1), .val false (.int .i64 u2), .val false (.int .i64 u3), .val false (.int .i64 u4)])] [] 0 (rpr_O v) :=
  eng_tree (C := (⟨consScene, fun _ _ _ => none, fun f => false, noFacts, fun _ => 4⟩ : Cfg Try.prog)) noFacts_ok (n := 30) (f := 105) rpr_O rpr_rd rfl (by kernel_rfl) h
noncomputable def rpr_v (u0 u1 u2 u3 u4 : Int) : Bool := (rpr_res u0 u1 u2 u3 u4).getD default
theorem rpr_spec (u0 u1 u2 u3 u4 : Int) (h : ((rpr_res u0 u1 u2 u3 u4).isSome) = true) : rpr_res u0 u1 u2 u3 u4 = some (rpr_v u0 u1 u2 u3 u4) := opt_get h
noncomputable def rpr_m (args : List RV) (hp : Hp) : Option ((Int × Int × Int × Int × Int) × List Nat) := match args with
  | [.sv (.agg [.val _ (.int .i64 u0), .val _ (.int .i64 u1), .val _ (.int .i64 u2), .val _ (.int .i64 u3), .val _ (.int .i64 u4)])] => some ((u0, u1, u2, u3, u4), [])
  | _ => none
noncomputable def rpr_con : Con Try.prog := conX Try.prog 105 rpr_m 0 (fun x => [.sv (.agg [.val false (.int .i64 x.1), .val false (.int .i64 x.2.1), .val false (.int .i64 x.2.2.1), .val false (.int .i64 x.2.2.2.1), .val false (.int .i64 x.2.2.2.2)])]) (fun x => []) (fun x => some ((rpr_res x.1 x.2.1 x.2.2.1 x.2.2.2.1 x.2.2.2.2).isSome)) (fun x => rpr_O (rpr_v x.1 x.2.1 x.2.2.1 x.2.2.2.1 x.2.2.2.2))
  (by
    intro args hp x r h
    unfold rpr_m at h
    split at h
    · cases h
      exact ⟨rfl, fun nx => ⟨rfl, (fun i hi => by cases hi), fun id o0 ho => by simp [hlook] at ho⟩⟩
    · cases h)
  (fun x h => ⟨rfl, rfl, rpr_tree (rpr_spec x.1 x.2.1 x.2.2.1 x.2.2.2.1 x.2.2.2.2 (h _ rfl))⟩)

noncomputable def trt_L0_S (u0 : Int) (u1 : List (List Ct)) (v : Int) : St := ⟨[.sv (.agg [.q u0, .ext 0]), .o (.ptr 1 0), .o (.val true (.bool false)), .d, .d, .d, .d, .o (.ptr 1 0), .o (.q u0), .o (.val false (.bool (decide (u0 < (0 : Int))))), .o (.val true (.bool false)), .o (.ptr 1 0), .o (.q u0), .o (.val false (.bool (decide (u0 > (2 : Int))))), .o (.val false (.bool (decide (u0 > (2 : Int))))), .o (.val true (.bool false)), .o (.ptr 1 1), .o (.ext 0), .o (.q (↑u1.length : Int)), .o (.val false (.bool (decide ((↑u1.length : Int) < (1 : Int))))), .o (.val false (.bool (decide ((↑u1.length : Int) < (1 : Int))))), .o (.val true (.bool false)), .o (.ptr 1 1), .o (.ext 0), .o (.q (↑u1.length : Int)), .o (.val false (.bool (decide ((↑u1.length : Int) > (16 : Int))))), .o (.val true (.bool false)), .o (.ptr 1 1), .o (.ext 0), .o (.q (↑u1.length : Int)), .o (.q v), .d, .d, .d, .d, .d, .d, .d, .d, .d, .d, .d, .d, .d, .d, .d, .d, .d, .d, .d, .d, .d, .d, .d, .d, .d, .d, .d, .d, .d, .d, .d, .d, .d, .d, .d, .d, .d, .d, .d, .d, .d, .d, .d], [(0, .grid ([Sh.int IntKind.i64, Sh.int IntKind.i64, Sh.int IntKind.i64, Sh.int IntKind.i64]) u1), (1, .cells [.q u0, .ext 0] 104)], 6, []⟩
noncomputable def trt_L0_T (u0 : Int) (u1 : List (List Ct)) : (Int) ⊕ (Unit) → Ex × St
  | .inl v => ((.exit 0), ⟨[.sv (.agg [.q u0, .ext 0]), .o (.ptr 1 0), .o (.val true (.bool false)), .d, .d, .d, .d, .o (.ptr 1 0), .o (.q u0), .o (.val false (.bool (decide (u0 < (0 : Int))))), .o (.val true (.bool false)), .o (.ptr 1 0), .o (.q u0), .o (.val false (.bool (decide (u0 > (2 : Int))))), .o (.val false (.bool (decide (u0 > (2 : Int))))), .o (.val true (.bool false)), .o (.ptr 1 1), .o (.ext 0), .o (.q (↑u1.length : Int)), .o (.val false (.bool (decide ((↑u1.length : Int) < (1 : Int))))), .o (.val false (.bool (decide ((↑u1.length : Int) < (1 : Int))))), .o (.val true (.bool false)), .o (.ptr 1 1), .o (.ext 0), .o (.q (↑u1.length : Int)), .o (.val false (.bool (decide ((↑u1.length : Int) > (16 : Int))))), .o (.val true (.bool false)), .o (.ptr 1 1), .o (.ext 0), .o (.q (↑u1.length : Int)), .o (.q v), .d, .d, .d, .d, .d, .d, .d, .d, .d, .d, .d, .d, .d, .d, .d, .d, .d, .d, .d, .d, .d, .d, .d, .d, .d, .d, .d, .d, .d, .d, .d, .d, .d, .d, .d, .d, .d, .d, .d, .d, .d, .d, .d], [(0, .grid ([Sh.int IntKind.i64, Sh.int IntKind.i64, Sh.int IntKind.i64, Sh.int IntKind.i64]) u1), (1, .cells [.q u0, .ext 0] 104)], 7, []⟩)
  | .inr v => (.ret, ⟨[.dead, .dead, .sv (.one (.val true (.bool false))), .dead, .dead, .dead, .dead, .dead, .dead, .dead, .dead, .dead, .dead, .dead, .dead, .dead, .dead, .dead, .dead, .dead, .dead, .dead, .dead, .dead, .dead, .dead, .dead, .dead, .dead, .dead, .dead, .dead, .dead, .dead, .dead, .dead, .dead, .dead, .dead, .dead, .dead, .dead, .dead, .dead, .dead, .dead, .dead, .dead, .dead, .dead, .dead, .dead, .dead, .dead, .dead, .dead, .dead, .dead, .dead, .dead, .dead, .dead, .dead, .dead, .dead, .dead, .dead, .dead, .dead, .dead, .dead, .dead, .dead, .dead], [(0, .grid ([Sh.int IntKind.i64, Sh.int IntKind.i64, Sh.int IntKind.i64, Sh.int IntKind.i64]) u1)], 23, []⟩)
noncomputable def trt_L0_rd (ex : Ex) (s : St) : Option ((Int) ⊕ ((Int) ⊕ (Unit))) × List (Nat × Option Nat) := match ex with
  | .normal => (some (.inl (rI (frC s 30 0))), [(1, some 1)])
  | .exit i => bif Nat.beq i 0 then (some (.inr (.inl (rI (frC s 30 0)))), [(1, some 1)]) else (none, [])
  | .ret => (some (.inr (.inr ())), [])
noncomputable def trt_L0_step (u1 : List (List Ct)) : (Int) → Option ((Int) ⊕ ((Int) ⊕ (Unit))) := fun v => match v with
  | vi0 => bif (decide (vi0 < (↑u1.length : Int))) then (bif (decide ((0 : Int) ≤ vi0 ∧ vi0 < (↑u1.length : Int))) then bif (decide ((rd u1 vi0.toNat 0).int < (0 : Int))) then (some (.inr (.inr ()))) else bif (decide ((rd u1 vi0.toNat 0).int > (2097152 : Int))) then (some (.inr (.inr ()))) else bif (decide (vi0 > (0 : Int))) then (bif (decide ((0 : Int) ≤ IntKind.i64.wrap (vi0 - (1 : Int)) ∧ IntKind.i64.wrap (vi0 - (1 : Int)) < (↑u1.length : Int))) then bif (decide ((rd u1 (IntKind.i64.wrap (vi0 - (1 : Int))).toNat 0).int ≥ (rd u1 vi0.toNat 0).int)) then (some (.inr (.inr ()))) else bif (decide ((rd u1 vi0.toNat 1).int < (-2147483648 : Int))) then (some (.inr (.inr ()))) else bif (decide ((rd u1 vi0.toNat 1).int > (2147483648 : Int))) then (some (.inr (.inr ()))) else bif (decide ((rd u1 vi0.toNat 2).int < (-2147483648 : Int))) then (some (.inr (.inr ()))) else bif (decide ((rd u1 vi0.toNat 2).int > (2147483648 : Int))) then (some (.inr (.inr ()))) else bif (decide ((rd u1 vi0.toNat 3).int < (-2147483648 : Int))) then (some (.inr (.inr ()))) else bif (decide ((rd u1 vi0.toNat 3).int > (2147483648 : Int))) then (some (.inr (.inr ()))) else some (.inl (IntKind.i64.wrap (vi0 + (1 : Int)))) else none) else bif (decide ((rd u1 vi0.toNat 1).int < (-2147483648 : Int))) then (some (.inr (.inr ()))) else bif (decide ((rd u1 vi0.toNat 1).int > (2147483648 : Int))) then (some (.inr (.inr ()))) else bif (decide ((rd u1 vi0.toNat 2).int < (-2147483648 : Int))) then (some (.inr (.inr ()))) else bif (decide ((rd u1 vi0.toNat 2).int > (2147483648 : Int))) then (some (.inr (.inr ()))) else bif (decide ((rd u1 vi0.toNat 3).int < (-2147483648 : Int))) then (some (.inr (.inr ()))) else bif (decide ((rd u1 vi0.toNat 3).int > (2147483648 : Int))) then (some (.inr (.inr ()))) else some (.inl (IntKind.i64.wrap (vi0 + (1 : Int)))) else none) else some (.inr (.inl vi0))
noncomputable def trt_L0_c : Code := loopC Try.prog 72 0
set_option maxRecDepth 100000 in
theorem trt_L0_ok (u0 : Int) (u1 : List (List Ct)) : ∀ v, StepOk Try.prog 1 trt_L0_c (trt_L0_S u0 u1) (trt_L0_T u0 u1) v (trt_L0_step u1 v) := fun v => match v with | vi0 => eng_step (C := (⟨consScene, fun _ _ _ => none, fun f => false, noFacts, fun _ => 0⟩ : Cfg Try.prog)) noFacts_ok (n := 30) (f := 72) trt_L0_rd (fun r => by cases r <;> rfl) (by kernel_rfl)
noncomputable def trt_L0_p (u1 : List (List Ct)) : Bool := (iter (trt_L0_step u1) (u1.length + 1) 0).isSome
noncomputable def trt_L0_v (u1 : List (List Ct)) : (Int) ⊕ (Unit) := (iter (trt_L0_step u1) (u1.length + 1) 0).getD (.inl default)
noncomputable def trt_L0_lc (u0 : Int) (u1 : List (List Ct)) : LoopCon Try.prog := loopCon2 Try.prog 1 trt_L0_c [(1, some 1)] (trt_L0_S u0 u1) (trt_L0_T u0 u1) 0 (trt_L0_step u1) (trt_L0_ok u0 u1) (u1.length + 1) 0 (trt_L0_p u1) rfl (trt_L0_v u1) rfl
noncomputable def trt_O (v : Bool) : Out := ⟨.sv (.one (.val false (.bool v))), [], 23, []⟩
noncomputable def trt_rd (out : Out) : Option (Bool) := some (rB (rvC out.v 0 0))
noncomputable def trt_res (u0 : Int) (u1 : List (List Ct)) : Option (Bool) := bif (decide (u0 < (0 : Int))) then (some false) else bif (decide (u0 > (2 : Int))) then (some false) else bif (decide ((↑u1.length : Int) < (1 : Int))) then (some false) else bif (decide ((↑u1.length : Int) > (16 : Int))) then (some false) else bif (trt_L0_p u1) then bif (isL (trt_L0_v u1)) then (some true) else some false else none
set_option maxRecDepth 100000 in
theorem trt_tree {u0 : Int} {u1 : List (List Ct)} {v : Bool} (h : trt_res u0 u1 = some v) : CallOk Try.prog 72 [.sv (.agg [.val false (.int .i64 u0), .ext 0])] [(0, .grid [.int .i64, .int .i64, .int .i64, .int .i64] u1)] 1 (trt_O v) :=
  eng_tree (C := (⟨consScene, fun f id nx => bif Nat.beq f 72 then (bif Nat.beq id 0 then some (trt_L0_lc u0 u1) else none) else none, fun f => false, noFacts, fun _ => 0⟩ : Cfg Try.prog)) noFacts_ok (n := 30) (f := 72) trt_O trt_rd rfl (by kernel_rfl) h
noncomputable def trt_v (u0 : Int) (u1 : List (List Ct)) : Bool := (trt_res u0 u1).getD default
theorem trt_spec (u0 : Int) (u1 : List (List Ct)) (h : ((trt_res u0 u1).isSome) = true) : trt_res u0 u1 = some (trt_v u0 u1) := opt_get h
noncomputable def trt_m (args : List RV) (hp : Hp) : Option ((Int × List (List Ct)) × List Nat) := match args with
  | [.sv (.agg [.val _ (.int .i64 u0), .ext i0])] => (match gridAt hp i0 [.int .i64, .int .i64, .int .i64, .int .i64] with
    | some u1 => some ((u0, u1), [i0])
    | _ => none)
  | _ => none
noncomputable def trt_con : Con Try.prog := conX Try.prog 72 trt_m 1 (fun x => [.sv (.agg [.val false (.int .i64 x.1), .ext 0])]) (fun x => [(0, .grid [.int .i64, .int .i64, .int .i64, .int .i64] x.2)]) (fun x => some ((trt_res x.1 x.2).isSome)) (fun x => trt_O (trt_v x.1 x.2))
  (by
    intro args hp x r h
    unfold trt_m at h
    split at h
    · split at h
      · rename_i g0
        cases h
        refine ⟨rfl, fun nx => ⟨rfl, ?_, ?_⟩⟩
        · intro i hi
          simp only [List.mem_cons, List.not_mem_nil, or_false] at hi
          rcases hi with rfl
          · exact ⟨_, List.mem_of_getElem? (i := 0) rfl, .inl (by simp [RV.ids, SV.ids, CV.ids])⟩
        · intro id o0 ho
          have := hlook_mem ho
          simp only [List.mem_cons, Prod.mk.injEq, List.not_mem_nil, or_false] at this
          rcases this with ⟨rfl, rfl⟩
          · exact ⟨_, gridAt_spec g0, rfl⟩
      · cases h
    · cases h)
  (fun x h => ⟨rfl, rfl, trt_tree (trt_spec x.1 x.2 (h _ rfl))⟩)

noncomputable def rrt_L0_S (u0 : Int) (u1 : List (List Ct)) (v : Int) : St := ⟨[.sv (.agg [.q u0, .ext 0]), .o (.ptr 1 0), .o (.val true (.bool false)), .o (.q v), .d, .d, .o (.ptr 1 0), .o (.q u0), .o (.val false (.bool (decide (u0 < (0 : Int))))), .o (.val true (.bool false)), .o (.ptr 1 0), .o (.q u0), .o (.val false (.bool (decide (u0 > (2 : Int))))), .o (.val false (.bool (decide (u0 > (2 : Int))))), .o (.val true (.bool false)), .o (.ptr 1 1), .o (.ext 0), .o (.q (↑u1.length : Int)), .o (.val false (.bool (decide ((↑u1.length : Int) < (1 : Int))))), .o (.val false (.bool (decide ((↑u1.length : Int) < (1 : Int))))), .o (.val true (.bool false)), .o (.ptr 1 1), .o (.ext 0), .o (.q (↑u1.length : Int)), .o (.val false (.bool (decide ((↑u1.length : Int) > (16 : Int))))), .o (.val true (.bool false)), .d, .d, .d, .d, .d, .d, .d, .d, .d, .d, .d, .d, .d, .d, .d, .d, .d, .d, .d, .d, .d, .d, .d, .d, .d, .d, .d, .d, .d, .d, .d, .d, .d, .d, .d, .d, .d, .d, .d, .d, .d, .d, .d, .d, .d, .d, .d, .d, .d, .d], [(0, .grid ([Sh.int IntKind.i64, Sh.int IntKind.i64, Sh.int IntKind.i64, Sh.int IntKind.i64]) u1), (1, .cells [.q u0, .ext 0] 128)], 6, []⟩
noncomputable def rrt_L0_T (u0 : Int) (u1 : List (List Ct)) : (Int) ⊕ (Unit) → Ex × St
  | .inl v => ((.exit 0), ⟨[.sv (.agg [.q u0, .ext 0]), .o (.ptr 1 0), .o (.val true (.bool false)), .o (.q v), .d, .d, .o (.ptr 1 0), .o (.q u0), .o (.val false (.bool (decide (u0 < (0 : Int))))), .o (.val true (.bool false)), .o (.ptr 1 0), .o (.q u0), .o (.val false (.bool (decide (u0 > (2 : Int))))), .o (.val false (.bool (decide (u0 > (2 : Int))))), .o (.val true (.bool false)), .o (.ptr 1 1), .o (.ext 0), .o (.q (↑u1.length : Int)), .o (.val false (.bool (decide ((↑u1.length : Int) < (1 : Int))))), .o (.val false (.bool (decide ((↑u1.length : Int) < (1 : Int))))), .o (.val true (.bool false)), .o (.ptr 1 1), .o (.ext 0), .o (.q (↑u1.length : Int)), .o (.val false (.bool (decide ((↑u1.length : Int) > (16 : Int))))), .o (.val true (.bool false)), .d, .d, .d, .d, .d, .d, .d, .d, .d, .d, .d, .d, .d, .d, .d, .d, .d, .d, .d, .d, .d, .d, .d, .d, .d, .d, .d, .d, .d, .d, .d, .d, .d, .d, .d, .d, .d, .d, .d, .d, .d, .d, .d, .d, .d, .d, .d, .d, .d, .d], [(0, .grid ([Sh.int IntKind.i64, Sh.int IntKind.i64, Sh.int IntKind.i64, Sh.int IntKind.i64]) u1), (1, .cells [.q u0, .ext 0] 128)], 7, []⟩)
  | .inr v => (.ret, ⟨[.dead, .dead, .sv (.one (.val true (.bool false))), .dead, .dead, .dead, .dead, .dead, .dead, .dead, .dead, .dead, .dead, .dead, .dead, .dead, .dead, .dead, .dead, .dead, .dead, .dead, .dead, .dead, .dead, .dead, .dead, .dead, .dead, .dead, .dead, .dead, .dead, .dead, .dead, .dead, .dead, .dead, .dead, .dead, .dead, .dead, .dead, .dead, .dead, .dead, .dead, .dead, .dead, .dead, .dead, .dead, .dead, .dead, .dead, .dead, .dead, .dead, .dead, .dead, .dead, .dead, .dead, .dead, .dead, .dead, .dead, .dead, .dead, .dead, .dead, .dead, .dead, .dead, .dead, .dead], [(0, .grid ([Sh.int IntKind.i64, Sh.int IntKind.i64, Sh.int IntKind.i64, Sh.int IntKind.i64]) u1)], 17, []⟩)
noncomputable def rrt_L0_rd (ex : Ex) (s : St) : Option ((Int) ⊕ ((Int) ⊕ (Unit))) × List (Nat × Option Nat) := match ex with
  | .normal => (some (.inl (rI (frC s 3 0))), [(1, some 1)])
  | .exit i => bif Nat.beq i 0 then (some (.inr (.inl (rI (frC s 3 0)))), [(1, some 1)]) else (none, [])
  | .ret => (some (.inr (.inr ())), [])
noncomputable def rrt_L0_step (u1 : List (List Ct)) : (Int) → Option ((Int) ⊕ ((Int) ⊕ (Unit))) := fun v => match v with
  | vi0 => bif (decide (vi0 < (↑u1.length : Int))) then (bif (decide ((0 : Int) ≤ vi0 ∧ vi0 < (↑u1.length : Int))) then bif (decide ((rd u1 vi0.toNat 0).int < (0 : Int))) then (some (.inr (.inr ()))) else bif (decide ((rd u1 vi0.toNat 0).int > (2097152 : Int))) then (some (.inr (.inr ()))) else bif (decide (vi0 > (0 : Int))) then (bif (decide ((0 : Int) ≤ IntKind.i64.wrap (vi0 - (1 : Int)) ∧ IntKind.i64.wrap (vi0 - (1 : Int)) < (↑u1.length : Int))) then bif (decide ((rd u1 vi0.toNat 0).int ≤ (rd u1 (IntKind.i64.wrap (vi0 - (1 : Int))).toNat 0).int)) then (some (.inr (.inr ()))) else bif ((rd u1 vi0.toNat 1).int != heldS (rd u1 vi0.toNat 1).int) then (some (.inr (.inr ()))) else bif ((rd u1 vi0.toNat 2).int != heldS (rd u1 vi0.toNat 2).int) then (some (.inr (.inr ()))) else bif ((rd u1 vi0.toNat 3).int != heldS (rd u1 vi0.toNat 3).int) then (some (.inr (.inr ()))) else some (.inl (IntKind.i64.wrap (vi0 + (1 : Int)))) else none) else bif ((rd u1 vi0.toNat 1).int != heldS (rd u1 vi0.toNat 1).int) then (some (.inr (.inr ()))) else bif ((rd u1 vi0.toNat 2).int != heldS (rd u1 vi0.toNat 2).int) then (some (.inr (.inr ()))) else bif ((rd u1 vi0.toNat 3).int != heldS (rd u1 vi0.toNat 3).int) then (some (.inr (.inr ()))) else some (.inl (IntKind.i64.wrap (vi0 + (1 : Int)))) else none) else some (.inr (.inl vi0))
noncomputable def rrt_L0_c : Code := loopC Try.prog 106 0
set_option maxRecDepth 100000 in
theorem rrt_L0_ok (u0 : Int) (u1 : List (List Ct)) : ∀ v, StepOk Try.prog 1 rrt_L0_c (rrt_L0_S u0 u1) (rrt_L0_T u0 u1) v (rrt_L0_step u1 v) := fun v => match v with | vi0 => eng_step (C := (⟨consScene, fun _ _ _ => none, fun f => false, noFacts, fun _ => 0⟩ : Cfg Try.prog)) noFacts_ok (n := 30) (f := 106) rrt_L0_rd (fun r => by cases r <;> rfl) (by kernel_rfl)
noncomputable def rrt_L0_p (u1 : List (List Ct)) : Bool := (iter (rrt_L0_step u1) (u1.length + 1) 0).isSome
noncomputable def rrt_L0_v (u1 : List (List Ct)) : (Int) ⊕ (Unit) := (iter (rrt_L0_step u1) (u1.length + 1) 0).getD (.inl default)
noncomputable def rrt_L0_lc (u0 : Int) (u1 : List (List Ct)) : LoopCon Try.prog := loopCon2 Try.prog 1 rrt_L0_c [(1, some 1)] (rrt_L0_S u0 u1) (rrt_L0_T u0 u1) 0 (rrt_L0_step u1) (rrt_L0_ok u0 u1) (u1.length + 1) 0 (rrt_L0_p u1) rfl (rrt_L0_v u1) rfl
noncomputable def rrt_O (v : Bool) : Out := ⟨.sv (.one (.val false (.bool v))), [], 17, []⟩
noncomputable def rrt_rd (out : Out) : Option (Bool) := some (rB (rvC out.v 0 0))
noncomputable def rrt_res (u0 : Int) (u1 : List (List Ct)) : Option (Bool) := bif (decide (u0 < (0 : Int))) then (some false) else bif (decide (u0 > (2 : Int))) then (some false) else bif (decide ((↑u1.length : Int) < (1 : Int))) then (some false) else bif (decide ((↑u1.length : Int) > (16 : Int))) then (some false) else bif (rrt_L0_p u1) then bif (isL (rrt_L0_v u1)) then (some true) else some false else none
set_option maxRecDepth 100000 in
theorem rrt_tree {u0 : Int} {u1 : List (List Ct)} {v : Bool} (h : rrt_res u0 u1 = some v) : CallOk Try.prog 106 [.sv (.agg [.val false (.int .i64 u0), .ext 0])] [(0, .grid [.int .i64, .int .i64, .int .i64, .int .i64] u1)] 1 (rrt_O v) :=
  eng_tree (C := (⟨consScene, fun f id nx => bif Nat.beq f 106 then (bif Nat.beq id 0 then some (rrt_L0_lc u0 u1) else none) else none, fun f => false, noFacts, fun _ => 0⟩ : Cfg Try.prog)) noFacts_ok (n := 30) (f := 106) rrt_O rrt_rd rfl (by kernel_rfl) h
noncomputable def rrt_v (u0 : Int) (u1 : List (List Ct)) : Bool := (rrt_res u0 u1).getD default
theorem rrt_spec (u0 : Int) (u1 : List (List Ct)) (h : ((rrt_res u0 u1).isSome) = true) : rrt_res u0 u1 = some (rrt_v u0 u1) := opt_get h
noncomputable def rrt_m (args : List RV) (hp : Hp) : Option ((Int × List (List Ct)) × List Nat) := match args with
  | [.sv (.agg [.val _ (.int .i64 u0), .ext i0])] => (match gridAt hp i0 [.int .i64, .int .i64, .int .i64, .int .i64] with
    | some u1 => some ((u0, u1), [i0])
    | _ => none)
  | _ => none
noncomputable def rrt_con : Con Try.prog := conX Try.prog 106 rrt_m 1 (fun x => [.sv (.agg [.val false (.int .i64 x.1), .ext 0])]) (fun x => [(0, .grid [.int .i64, .int .i64, .int .i64, .int .i64] x.2)]) (fun x => some ((rrt_res x.1 x.2).isSome)) (fun x => rrt_O (rrt_v x.1 x.2))
  (by
    intro args hp x r h
    unfold rrt_m at h
    split at h
    · split at h
      · rename_i g0
        cases h
        refine ⟨rfl, fun nx => ⟨rfl, ?_, ?_⟩⟩
        · intro i hi
          simp only [List.mem_cons, List.not_mem_nil, or_false] at hi
          rcases hi with rfl
          · exact ⟨_, List.mem_of_getElem? (i := 0) rfl, .inl (by simp [RV.ids, SV.ids, CV.ids])⟩
        · intro id o0 ho
          have := hlook_mem ho
          simp only [List.mem_cons, Prod.mk.injEq, List.not_mem_nil, or_false] at this
          rcases this with ⟨rfl, rfl⟩
          · exact ⟨_, gridAt_spec g0, rfl⟩
      · cases h
    · cases h)
  (fun x h => ⟨rfl, rfl, rrt_tree (rrt_spec x.1 x.2 (h _ rfl))⟩)
noncomputable def consScene1 : List (Con Try.prog) := [shr_con, rhr_con, spr_con, rpr_con, trt_con, rrt_con] ++ consScene
end Go.Proofs.Ytcpbiijegbbafaa
