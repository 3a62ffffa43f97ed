/- The table of a curve. No condition. -/
import Derived.Test.YtonlllijdbjkaaaEngGt7
import Derived.Test.YtonlllijdbjkaaaEngHue
set_option linter.unusedVariables false
set_option linter.unusedSimpArgs false
namespace Go.Proofs.Ytonlllijdbjkaaa
open Go.RowKit

noncomputable def gmk_L0_S (x0 : List (List Ct)) (v : Int × List (List Ct)) : St := ⟨[.o (.ext 0), .d, .o (.eptr 2 0), .o (.eptr 4 0), .d, .o (.q v.1), .d, .d, .d, .d, .d, .d, .d, .d, .d, .d, .d, .d, .d], [(0, .grid ([Sh.int IntKind.i64, Sh.int IntKind.i64]) x0), (1, .row ([Sh.int IntKind.u8]) 39 (List.replicate 256 [Ct.i (0 : Int)])), (2, .elem 1 0 1), (3, .row ([Sh.int IntKind.u8]) 39 v.2), (4, .elem 3 0 1)], 5, []⟩
noncomputable def gmk_L0_T (x0 : List (List Ct)) (v : Int × List (List Ct)) : Ex × St := ((.exit 0), ⟨(gmk_L0_S x0 v).fr, (gmk_L0_S x0 v).hp, 6, []⟩)
noncomputable def gmk_L0_rd (ex : Ex) (s : St) : Option ((Int × List (List Ct)) ⊕ (Int × List (List Ct))) × List (Nat × Option Nat) := match ex with
  | .normal => (some (.inl (rI (frC s 5 0), rL s (hpE s 4))), [(1, some 1), (2, some 2), (3, some 3), (4, some 4)])
  | .exit i => bif Nat.beq i 0 then (some (.inr (rI (frC s 5 0), rL s (hpE s 4))), [(1, some 1), (2, some 2), (3, some 3), (4, some 4)]) else (none, [])
  | _ => (none, [])
noncomputable def gmk_c11798274 (x0 : List (List Ct)) (vi0 : Int) : Int := cat_v x0 (divS (ofS vi0) (16711680 : Int))
noncomputable def gmk_L0_step (x0 : List (List Ct)) : (Int × List (List Ct)) → Option ((Int × List (List Ct)) ⊕ (Int × List (List Ct))) := fun v => match v with
  | (vi0, vl0) => bif (decide (vi0 < (256 : Int))) then (bif (decide ((0 : Int) ≤ vi0 ∧ vi0 < (↑256 : Int) ∧ vi0 < (↑vl0.length : Int))) then some (.inl (IntKind.i64.wrap (vi0 + (1 : Int)), vl0.set vi0.toNat (updRow 1 0 [Ct.i (shadeS (gmk_c11798274 x0 vi0))] (vl0.getD vi0.toNat [])))) else none) else some (.inr (vi0, vl0))
noncomputable def gmk_L0_c : Code := loopC Try.prog 23 0
set_option maxRecDepth 100000 in
theorem gmk_L0_ok (x0 : List (List Ct)) : ∀ v, StepOk Try.prog 1 gmk_L0_c (gmk_L0_S x0) (gmk_L0_T x0) v (gmk_L0_step x0 v) := fun v => match v with | (vi0, vl0) => eng_step (C := (⟨(consHue ++ consGt7), fun _ _ _ => none, fun f => ⟨false, Nat.beq f 23⟩, noFacts, fun _ => 104⟩ : Cfg Try.prog)) noFacts_ok (n := 30) (f := 23) gmk_L0_rd (fun _ => rfl) (by kernel_rfl)
noncomputable def gmk_L0_p (x0 : List (List Ct)) : Bool := (iter (gmk_L0_step x0) 257 (0, (List.replicate 256 [Ct.i (0 : Int)]))).isSome
noncomputable def gmk_L0_v (x0 : List (List Ct)) : Int × List (List Ct) := loopRes (gmk_L0_step x0) 257 (0, (List.replicate 256 [Ct.i (0 : Int)]))
set_option maxRecDepth 100000 in
noncomputable def gmk_L0_lc (x0 : List (List Ct)) : LoopCon Try.prog := loopCon Try.prog 1 gmk_L0_c [(1, some 1), (2, some 2), (3, some 3), (4, some 4)] (gmk_L0_S x0) (gmk_L0_T x0) 0 (gmk_L0_step x0) (gmk_L0_ok x0) 257 (0, (List.replicate 256 [Ct.i (0 : Int)])) (gmk_L0_p x0) rfl (gmk_L0_v x0) rfl
noncomputable def gmk_O (v : List (List Ct)) : Out := ⟨.sv (.one (.tab .u8 256 v)), [], 6, []⟩
noncomputable def gmk_rd (out : Out) : Option (List (List Ct)) := some (rT (rvC out.v 0 0))
noncomputable def gmk_res (x0 : List (List Ct)) : Option (List (List Ct)) := bif (gmk_L0_p x0) then bif (decide (256 ≤ (gmk_L0_v x0).snd.length)) then bif (decide ((List.replicate 256 [Ct.i (0 : Int)]).length = 256 ∧ (gmk_L0_v x0).snd.length = 256)) then bif (decide (256 ≤ (gmk_L0_v x0).snd.length)) then some ((gmk_L0_v x0).snd) else none else none else none else none
set_option maxRecDepth 100000 in
theorem gmk_tree {x0 : List (List Ct)} {v : List (List Ct)} (h : gmk_res x0 = some v) : CallOk Try.prog 23 [.sv (.one (.ext 0))] [(0, .grid [.int .i64, .int .i64] x0)] 1 (gmk_O v) :=
  eng_tree (C := (⟨(consHue ++ consGt7), fun f id nx => bif Nat.beq f 23 then (bif Nat.beq id 0 then some (gmk_L0_lc x0) else none) else none, fun f => ⟨false, Nat.beq f 23⟩, noFacts, fun _ => 104⟩ : Cfg Try.prog)) noFacts_ok (n := 30) (f := 23) gmk_O gmk_rd rfl (by kernel_rfl) h

noncomputable def rmk_L0_S (x0 : List (List Ct)) (v : Int × List (List Ct)) : St := ⟨[.o (.ext 0), .d, .o (.eptr 2 0), .o (.eptr 4 0), .o (.q v.1), .d, .d, .d, .d, .d, .d, .d, .d, .d, .d, .d, .d, .d, .d], [(0, .grid ([Sh.int IntKind.i64, Sh.int IntKind.i64]) x0), (1, .row ([Sh.int IntKind.u8]) 38 (List.replicate 256 [Ct.i (0 : Int)])), (2, .elem 1 0 1), (3, .row ([Sh.int IntKind.u8]) 38 v.2), (4, .elem 3 0 1)], 5, []⟩
noncomputable def rmk_L0_T (x0 : List (List Ct)) (v : Int × List (List Ct)) : Ex × St := ((.exit 0), ⟨(rmk_L0_S x0 v).fr, (rmk_L0_S x0 v).hp, 6, []⟩)
noncomputable def rmk_L0_rd (ex : Ex) (s : St) : Option ((Int × List (List Ct)) ⊕ (Int × List (List Ct))) × List (Nat × Option Nat) := match ex with
  | .normal => (some (.inl (rI (frC s 4 0), rL s (hpE s 4))), [(1, some 1), (2, some 2), (3, some 3), (4, some 4)])
  | .exit i => bif Nat.beq i 0 then (some (.inr (rI (frC s 4 0), rL s (hpE s 4))), [(1, some 1), (2, some 2), (3, some 3), (4, some 4)]) else (none, [])
  | _ => (none, [])
noncomputable def rmk_c99325201 (x0 : List (List Ct)) (vi0 : Int) : Int := rat_v x0 (divS (ofS vi0) (16711680 : Int))
noncomputable def rmk_L0_step (x0 : List (List Ct)) : (Int × List (List Ct)) → Option ((Int × List (List Ct)) ⊕ (Int × List (List Ct))) := fun v => match v with
  | (vi0, vl0) => bif (decide (vi0 < (256 : Int))) then (bif (decide ((0 : Int) ≤ vi0 ∧ vi0 < (↑256 : Int) ∧ vi0 < (↑vl0.length : Int))) then some (.inl (IntKind.i64.wrap (vi0 + (1 : Int)), vl0.set vi0.toNat (updRow 1 0 [Ct.i (shadeS (rmk_c99325201 x0 vi0))] (vl0.getD vi0.toNat [])))) else none) else some (.inr (vi0, vl0))
noncomputable def rmk_L0_c : Code := loopC Try.prog 24 0
set_option maxRecDepth 100000 in
theorem rmk_L0_ok (x0 : List (List Ct)) : ∀ v, StepOk Try.prog 1 rmk_L0_c (rmk_L0_S x0) (rmk_L0_T x0) v (rmk_L0_step x0 v) := fun v => match v with | (vi0, vl0) => eng_step (C := (⟨(consHue ++ consGt7), fun _ _ _ => none, fun f => ⟨false, Nat.beq f 24⟩, noFacts, fun _ => 104⟩ : Cfg Try.prog)) noFacts_ok (n := 30) (f := 24) rmk_L0_rd (fun _ => rfl) (by kernel_rfl)
noncomputable def rmk_L0_p (x0 : List (List Ct)) : Bool := (iter (rmk_L0_step x0) 257 (0, (List.replicate 256 [Ct.i (0 : Int)]))).isSome
noncomputable def rmk_L0_v (x0 : List (List Ct)) : Int × List (List Ct) := loopRes (rmk_L0_step x0) 257 (0, (List.replicate 256 [Ct.i (0 : Int)]))
set_option maxRecDepth 100000 in
noncomputable def rmk_L0_lc (x0 : List (List Ct)) : LoopCon Try.prog := loopCon Try.prog 1 rmk_L0_c [(1, some 1), (2, some 2), (3, some 3), (4, some 4)] (rmk_L0_S x0) (rmk_L0_T x0) 0 (rmk_L0_step x0) (rmk_L0_ok x0) 257 (0, (List.replicate 256 [Ct.i (0 : Int)])) (rmk_L0_p x0) rfl (rmk_L0_v x0) rfl
noncomputable def rmk_O (v : List (List Ct)) : Out := ⟨.sv (.one (.tab .u8 256 v)), [], 6, []⟩
noncomputable def rmk_rd (out : Out) : Option (List (List Ct)) := some (rT (rvC out.v 0 0))
noncomputable def rmk_res (x0 : List (List Ct)) : Option (List (List Ct)) := bif (rmk_L0_p x0) then bif (decide (256 ≤ (rmk_L0_v x0).snd.length)) then bif (decide ((List.replicate 256 [Ct.i (0 : Int)]).length = 256 ∧ (rmk_L0_v x0).snd.length = 256)) then bif (decide (256 ≤ (rmk_L0_v x0).snd.length)) then some ((rmk_L0_v x0).snd) else none else none else none else none
set_option maxRecDepth 100000 in
theorem rmk_tree {x0 : List (List Ct)} {v : List (List Ct)} (h : rmk_res x0 = some v) : CallOk Try.prog 24 [.sv (.one (.ext 0))] [(0, .grid [.int .i64, .int .i64] x0)] 1 (rmk_O v) :=
  eng_tree (C := (⟨(consHue ++ consGt7), fun f id nx => bif Nat.beq f 24 then (bif Nat.beq id 0 then some (rmk_L0_lc x0) else none) else none, fun f => ⟨false, Nat.beq f 24⟩, noFacts, fun _ => 104⟩ : Cfg Try.prog)) noFacts_ok (n := 30) (f := 24) rmk_O rmk_rd rfl (by kernel_rfl) h
end Go.Proofs.Ytonlllijdbjkaaa
