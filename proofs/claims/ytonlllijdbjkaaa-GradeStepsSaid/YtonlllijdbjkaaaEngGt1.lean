/- Tables: the negative, one behind another. No condition. -/
import Derived.Test.YtonlllijdbjkaaaEngG
import Derived.Test.YtonlllijdbjkaaaOpenB
set_option linter.unusedVariables false
set_option linter.unusedSimpArgs false
namespace Go.Proofs.Ytonlllijdbjkaaa
open Go.RowKit

noncomputable def neg_L0_S  (v : Int × List (List Ct)) : St := ⟨[.o (.eptr 1 0), .o (.eptr 3 0), .d, .o (.q v.1), .d, .d, .d, .d, .d, .d, .d, .d, .d], [(0, .row ([Sh.int IntKind.u8]) 39 (List.replicate 256 [Ct.i (0 : Int)])), (1, .elem 0 0 1), (2, .row ([Sh.int IntKind.u8]) 39 v.2), (3, .elem 2 0 1)], 4, []⟩
noncomputable def neg_L0_T  (v : Int × List (List Ct)) : Ex × St := ((.exit 0), ⟨(neg_L0_S v).fr, (neg_L0_S v).hp, 5, []⟩)
noncomputable def neg_L0_rd (ex : Ex) (s : St) : Option ((Int × List (List Ct)) ⊕ (Int × List (List Ct))) × List (Nat × Option Nat) := match ex with
  | .normal => (some (.inl (rI (frC s 3 0), rL s (hpE s 3))), [(0, some 0), (1, some 1), (2, some 2), (3, some 3)])
  | .exit i => bif Nat.beq i 0 then (some (.inr (rI (frC s 3 0), rL s (hpE s 3))), [(0, some 0), (1, some 1), (2, some 2), (3, some 3)]) else (none, [])
  | _ => (none, [])
noncomputable def neg_L0_step  : (Int × List (List Ct)) → Option ((Int × List (List Ct)) ⊕ (Int × List (List Ct))) := fun v => match v with
  | (vi0, vl0) => bif (decide (vi0 < (256 : Int))) then (bif (decide ((0 : Int) ≤ vi0 ∧ vi0 < (↑256 : Int) ∧ vi0 < (↑vl0.length : Int))) then some (.inl (IntKind.i64.wrap (vi0 + (1 : Int)), vl0.set vi0.toNat (updRow 1 0 [Ct.i (IntKind.u8.wrap (IntKind.i64.wrap ((255 : Int) - vi0)))] (vl0.getD vi0.toNat [])))) else none) else some (.inr (vi0, vl0))
noncomputable def neg_L0_c : Code := loopC Try.prog 16 0
set_option maxRecDepth 100000 in
theorem neg_L0_ok  : ∀ v, StepOk Try.prog 0 neg_L0_c (neg_L0_S ) (neg_L0_T ) v (neg_L0_step  v) := fun v => match v with | (vi0, vl0) => eng_step (C := (⟨[], fun _ _ _ => none, fun f => ⟨false, Nat.beq f 16⟩, noFacts, fun _ => 104⟩ : Cfg Try.prog)) noFacts_ok (n := 30) (f := 16) neg_L0_rd (fun _ => rfl) (by kernel_rfl)
noncomputable def neg_L0_p  : Bool := (iter (neg_L0_step ) 257 (0, (List.replicate 256 [Ct.i (0 : Int)]))).isSome
noncomputable def neg_L0_v  : Int × List (List Ct) := loopRes (neg_L0_step ) 257 (0, (List.replicate 256 [Ct.i (0 : Int)]))
set_option maxRecDepth 100000 in
noncomputable def neg_L0_lc  : LoopCon Try.prog := loopCon Try.prog 0 neg_L0_c [(0, some 0), (1, some 1), (2, some 2), (3, some 3)] (neg_L0_S ) (neg_L0_T ) 0 (neg_L0_step ) (neg_L0_ok ) 257 (0, (List.replicate 256 [Ct.i (0 : Int)])) (neg_L0_p ) rfl (neg_L0_v ) rfl
noncomputable def neg_O (v : Unit) : Out := ⟨.sv (.one (.tab .u8 256 neg_L0_v.snd)), [], 5, []⟩
noncomputable def neg_rd (out : Out) : Option (Unit) := some ()
noncomputable def neg_res  : Option (Unit) := bif neg_L0_p then bif (decide (256 ≤ neg_L0_v.snd.length)) then bif (decide ((List.replicate 256 [Ct.i (0 : Int)]).length = 256 ∧ neg_L0_v.snd.length = 256)) then bif (decide (256 ≤ neg_L0_v.snd.length)) then some () else none else none else none else none
set_option maxRecDepth 100000 in
theorem neg_tree  {v : Unit} (h : neg_res  = some v) : CallOk Try.prog 16 [] [] 0 (neg_O v) :=
  eng_tree (C := (⟨[], fun f id nx => bif Nat.beq f 16 then (bif Nat.beq id 0 then some (neg_L0_lc ) else none) else none, fun f => ⟨false, Nat.beq f 16⟩, noFacts, fun _ => 104⟩ : Cfg Try.prog)) noFacts_ok (n := 30) (f := 16) neg_O neg_rd rfl (by kernel_rfl) h

noncomputable def then_L0_S (x0 : List (List Ct)) (x1 : List (List Ct)) (v : Int × List (List Ct)) : St := ⟨[.o (.tab .u8 256 x0), .o (.tab .u8 256 x1), .o (.eptr 1 0), .o (.eptr 3 0), .o (.eptr 5 0), .o (.eptr 7 0), .d, .o (.q v.1), .d, .d, .d, .d, .d, .d, .d, .d, .d, .d, .d], [(0, .row ([Sh.int IntKind.u8]) 39 x0), (1, .elem 0 0 1), (2, .row ([Sh.int IntKind.u8]) 39 x1), (3, .elem 2 0 1), (4, .row ([Sh.int IntKind.u8]) 39 (List.replicate 256 [Ct.i (0 : Int)])), (5, .elem 4 0 1), (6, .row ([Sh.int IntKind.u8]) 39 v.2), (7, .elem 6 0 1)], 8, []⟩
noncomputable def then_L0_T (x0 : List (List Ct)) (x1 : List (List Ct)) (v : Int × List (List Ct)) : Ex × St := ((.exit 0), ⟨(then_L0_S x0 x1 v).fr, (then_L0_S x0 x1 v).hp, 9, []⟩)
noncomputable def then_L0_rd (ex : Ex) (s : St) : Option ((Int × List (List Ct)) ⊕ (Int × List (List Ct))) × List (Nat × Option Nat) := match ex with
  | .normal => (some (.inl (rI (frC s 7 0), rL s (hpE s 7))), [(0, some 0), (1, some 1), (2, some 2), (3, some 3), (4, some 4), (5, some 5), (6, some 6), (7, some 7)])
  | .exit i => bif Nat.beq i 0 then (some (.inr (rI (frC s 7 0), rL s (hpE s 7))), [(0, some 0), (1, some 1), (2, some 2), (3, some 3), (4, some 4), (5, some 5), (6, some 6), (7, some 7)]) else (none, [])
  | _ => (none, [])
noncomputable def then_L0_step (x0 : List (List Ct)) (x1 : List (List Ct)) : (Int × List (List Ct)) → Option ((Int × List (List Ct)) ⊕ (Int × List (List Ct))) := fun v => match v with
  | (vi0, vl0) => bif (decide (vi0 < (256 : Int))) then (bif (decide ((0 : Int) ≤ vi0 ∧ vi0 < (↑256 : Int) ∧ vi0 < (↑x0.length : Int))) then bif (decide ((0 : Int) ≤ (rd x0 vi0.toNat 0).int ∧ (rd x0 vi0.toNat 0).int < (↑256 : Int) ∧ (rd x0 vi0.toNat 0).int < (↑x1.length : Int))) then bif (decide ((0 : Int) ≤ vi0 ∧ vi0 < (↑256 : Int) ∧ vi0 < (↑vl0.length : Int))) then some (.inl (IntKind.i64.wrap (vi0 + (1 : Int)), vl0.set vi0.toNat (updRow 1 0 [Ct.i (rd x1 (rd x0 vi0.toNat 0).int.toNat 0).int] (vl0.getD vi0.toNat [])))) else none else none else none) else some (.inr (vi0, vl0))
noncomputable def then_L0_c : Code := loopC Try.prog 17 0
set_option maxRecDepth 100000 in
theorem then_L0_ok (x0 : List (List Ct)) (x1 : List (List Ct)) : ∀ v, StepOk Try.prog 0 then_L0_c (then_L0_S x0 x1) (then_L0_T x0 x1) v (then_L0_step x0 x1 v) := fun v => match v with | (vi0, vl0) => eng_step (C := (⟨[], fun _ _ _ => none, fun f => ⟨false, Nat.beq f 17⟩, noFacts, fun _ => 104⟩ : Cfg Try.prog)) noFacts_ok (n := 30) (f := 17) then_L0_rd (fun _ => rfl) (by kernel_rfl)
noncomputable def then_L0_p (x0 : List (List Ct)) (x1 : List (List Ct)) : Bool := (iter (then_L0_step x0 x1) 257 (0, (List.replicate 256 [Ct.i (0 : Int)]))).isSome
noncomputable def then_L0_v (x0 : List (List Ct)) (x1 : List (List Ct)) : Int × List (List Ct) := loopRes (then_L0_step x0 x1) 257 (0, (List.replicate 256 [Ct.i (0 : Int)]))
set_option maxRecDepth 100000 in
noncomputable def then_L0_lc (x0 : List (List Ct)) (x1 : List (List Ct)) : LoopCon Try.prog := loopCon Try.prog 0 then_L0_c [(0, some 0), (1, some 1), (2, some 2), (3, some 3), (4, some 4), (5, some 5), (6, some 6), (7, some 7)] (then_L0_S x0 x1) (then_L0_T x0 x1) 0 (then_L0_step x0 x1) (then_L0_ok x0 x1) 257 (0, (List.replicate 256 [Ct.i (0 : Int)])) (then_L0_p x0 x1) rfl (then_L0_v x0 x1) rfl
noncomputable def then_O (v : List (List Ct)) : Out := ⟨.sv (.one (.tab .u8 256 v)), [], 9, []⟩
noncomputable def then_rd (out : Out) : Option (List (List Ct)) := some (rT (rvC out.v 0 0))
noncomputable def then_res (x0 : List (List Ct)) (x1 : List (List Ct)) : Option (List (List Ct)) := bif (decide (x0.length = 256)) then bif (decide (x1.length = 256)) then bif (then_L0_p x0 x1) then bif (decide (256 ≤ (then_L0_v x0 x1).snd.length)) then bif (decide ((List.replicate 256 [Ct.i (0 : Int)]).length = 256 ∧ (then_L0_v x0 x1).snd.length = 256)) then bif (decide (256 ≤ (then_L0_v x0 x1).snd.length)) then some ((then_L0_v x0 x1).snd) else none else none else none else none else none else none
set_option maxRecDepth 100000 in
theorem then_tree {x0 x1 v : List (List Ct)} (h : then_res x0 x1 = some v) : CallOk Try.prog 17 [.sv (.one (.tab .u8 256 x0)), .sv (.one (.tab .u8 256 x1))] [] 0 (then_O v) :=
  eng_tree (C := (⟨[], fun f id nx => bif Nat.beq f 17 then (bif Nat.beq id 0 then some (then_L0_lc x0 x1) else none) else none, fun f => ⟨false, Nat.beq f 17⟩, noFacts, fun _ => 104⟩ : Cfg Try.prog)) noFacts_ok (n := 30) (f := 17) then_O then_rd rfl (by kernel_rfl) h
end Go.Proofs.Ytonlllijdbjkaaa
