/- How much alike. No condition. -/
import Derived.Test.YtijidmcblpgfkaaDoorEngLc1
set_option linter.unusedVariables false
set_option linter.unusedSimpArgs false
namespace Go.Proofs.YtijidmcblpgfkaaDoor
open Go.RowKit

noncomputable def lik_O (v : Int) : Out := ⟨.sv (.one (.val false (.int .i64 v))), [], 16, []⟩
noncomputable def lik_rd (out : Out) : Option (Int) := some (rI (rvC out.v 0 0))
noncomputable def lik_res (x0_3 x0_4 x0_6 : List (List Ct)) (x1 : Int) (x2 : Int) : Option (Int) := bif (decide ((0 : Int) ≤ x1 ∧ x1 < (↑x0_6.length : Int))) then bif (decide ((0 : Int) ≤ x2 ∧ x2 < (↑x0_6.length : Int))) then bif (!decide ((rd x0_6 x1.toNat 0).int < (0 : Int)) == decide ((rd x0_6 x2.toNat 0).int < (0 : Int))) then (some 0) else bif (decide ((0 : Int) ≤ x1 ∧ x1 < (↑x0_6.length : Int))) then bif (decide ((rd x0_6 x1.toNat 0).int < (0 : Int))) then (some 65536) else bif (decide ((0 : Int) ≤ x1 ∧ x1 < (↑x0_4.length : Int))) then bif (decide ((0 : Int) ≤ x2 ∧ x2 < (↑x0_4.length : Int))) then bif (decide ((0 : Int) ≤ x1 ∧ x1 < (↑x0_3.length : Int))) then bif (decide ((0 : Int) ≤ x2 ∧ x2 < (↑x0_3.length : Int))) then some (mulS (unS (addS (addS (addS (0 : Int) (mulS (rd x0_4 x1.toNat 0).int (rd x0_4 x2.toNat 0).int)) (mulS (rd x0_4 x1.toNat 1).int (rd x0_4 x2.toNat 1).int)) (mulS (rd x0_4 x1.toNat 2).int (rd x0_4 x2.toNat 2).int))) (divS (65536 : Int) (addS (65536 : Int) (mulS (262144 : Int) (absS (subS (rd x0_3 x1.toNat 0).int (rd x0_3 x2.toNat 0).int)))))) else none else none else none else none else none else none else none
set_option maxRecDepth 100000 in
theorem lik_tree {x0_0 : Int} {x0_1 : Int} {x0_2 x0_3 x0_4 x0_5 x0_6 x0_7 : List (List Ct)} {x1 x2 v : Int} (h : lik_res x0_3 x0_4 x0_6 x1 x2 = some v) : CallOk Tryd.prog 45 [.sv (.agg [.val false (.int .i64 x0_0), .val false (.int .i64 x0_1), .ext 0, .ext 1, .ext 2, .ext 3, .ext 4, .ext 5]), .sv (.one (.val false (.int .i64 x1))), .sv (.one (.val false (.int .i64 x2)))] [(0, .grid [.int .i64, .int .i64, .int .i64] x0_2), (1, .grid [.int .i64] x0_3), (2, .grid [.int .i64, .int .i64, .int .i64] x0_4), (3, .grid [.int .i64, .int .i64, .int .i64] x0_5), (4, .grid [.int .i64] x0_6), (5, .grid [.int .i64] x0_7)] 6 (lik_O v) :=
  eng_tree (C := (⟨consLc1, fun _ _ _ => none, fun f => false, noFacts, fun _ => 104⟩ : Cfg Tryd.prog)) noFacts_ok (n := 30) (f := 45) lik_O lik_rd rfl (by kernel_rfl) h

noncomputable def nea_O (v : Int) : Out := ⟨.sv (.one (.val false (.int .i64 v))), [], 13, []⟩
noncomputable def nea_rd (out : Out) : Option (Int) := some (rI (rvC out.v 0 0))
noncomputable def nea_res (x0_0 x0_1 x0_2 x1_0 x1_1 x1_2 x2 : Int) : Option (Int) := bif (decide ((0 : Int) ≤ x2)) then some (divS (65536 : Int) (addS (65536 : Int) (mulS (ofS (IntKind.i64.wrap ((2 : Int) * (2 : Int) ^ min x2.toNat IntKind.i64.bits))) (hdif_v x0_0 x0_1 x0_2 x1_0 x1_1 x1_2)))) else none
set_option maxRecDepth 100000 in
theorem nea_tree {x0_0 x0_1 x0_2 x1_0 x1_1 x1_2 x2 v : Int} (h : nea_res x0_0 x0_1 x0_2 x1_0 x1_1 x1_2 x2 = some v) : CallOk Tryd.prog 46 [.sv (.agg [.val false (.int .i64 x0_0), .val false (.int .i64 x0_1), .val false (.int .i64 x0_2)]), .sv (.agg [.val false (.int .i64 x1_0), .val false (.int .i64 x1_1), .val false (.int .i64 x1_2)]), .sv (.one (.val false (.int .i64 x2)))] [] 0 (nea_O v) :=
  eng_tree (C := (⟨consLc1, fun _ _ _ => none, fun f => false, noFacts, fun _ => 104⟩ : Cfg Tryd.prog)) noFacts_ok (n := 30) (f := 46) nea_O nea_rd rfl (by kernel_rfl) h

noncomputable def ali_O (v : Int) : Out := ⟨.sv (.one (.val false (.int .i64 v))), [], 16, []⟩
noncomputable def ali_rd (out : Out) : Option (Int) := some (rI (rvC out.v 0 0))
noncomputable def ali_res (x0_3 x0_4 x0_6 : List (List Ct)) (x1 : Int) (x2 : Int) : Option (Int) := bif (decide ((0 : Int) ≤ x1 ∧ x1 < (↑x0_6.length : Int))) then bif (decide ((0 : Int) ≤ x2 ∧ x2 < (↑x0_6.length : Int))) then bif (!decide ((rd x0_6 x1.toNat 0).int ≥ (0 : Int)) == decide ((rd x0_6 x2.toNat 0).int ≥ (0 : Int))) then (some 0) else bif (!decide ((rd x0_6 x1.toNat 0).int ≥ (0 : Int))) then (some 65536) else bif (decide ((0 : Int) ≤ x1 ∧ x1 < (↑x0_3.length : Int))) then bif (decide ((0 : Int) ≤ x2 ∧ x2 < (↑x0_3.length : Int))) then bif (decide ((0 : Int) ≤ x1 ∧ x1 < (↑x0_4.length : Int))) then bif (decide ((0 : Int) ≤ x2 ∧ x2 < (↑x0_4.length : Int))) then some (mulS (unS (addS (addS (addS (0 : Int) (mulS (rd x0_4 x1.toNat 0).int (rd x0_4 x2.toNat 0).int)) (mulS (rd x0_4 x1.toNat 1).int (rd x0_4 x2.toNat 1).int)) (mulS (rd x0_4 x1.toNat 2).int (rd x0_4 x2.toNat 2).int))) (divS (65536 : Int) (addS (65536 : Int) (mulS (262144 : Int) (bif decide (subS (rd x0_3 x1.toNat 0).int (rd x0_3 x2.toNat 0).int < (0 : Int)) then IntKind.i64.wrap ((0 : Int) - subS (rd x0_3 x1.toNat 0).int (rd x0_3 x2.toNat 0).int) else subS (rd x0_3 x1.toNat 0).int (rd x0_3 x2.toNat 0).int))))) else none else none else none else none else none else none
set_option maxRecDepth 100000 in
theorem ali_tree {x0_0 : Int} {x0_1 : Int} {x0_2 x0_3 x0_4 x0_5 x0_6 x0_7 : List (List Ct)} {x1 x2 v : Int} (h : ali_res x0_3 x0_4 x0_6 x1 x2 = some v) : CallOk Tryd.prog 38 [.sv (.agg [.val false (.int .i64 x0_0), .val false (.int .i64 x0_1), .ext 0, .ext 1, .ext 2, .ext 3, .ext 4, .ext 5]), .sv (.one (.val false (.int .i64 x1))), .sv (.one (.val false (.int .i64 x2)))] [(0, .grid [.int .i64, .int .i64, .int .i64] x0_2), (1, .grid [.int .i64] x0_3), (2, .grid [.int .i64, .int .i64, .int .i64] x0_4), (3, .grid [.int .i64, .int .i64, .int .i64] x0_5), (4, .grid [.int .i64] x0_6), (5, .grid [.int .i64] x0_7)] 6 (ali_O v) :=
  eng_tree (C := (⟨consLc1, fun _ _ _ => none, fun f => false, noFacts, fun _ => 104⟩ : Cfg Tryd.prog)) noFacts_ok (n := 30) (f := 38) ali_O ali_rd rfl (by kernel_rfl) h

noncomputable def pow_L0_S (x0 : Int) (v : Int × Int) : St := ⟨[.o (.q x0), .d, .o (.val true (.int .i64 0)), .o (.q v.1), .o (.q v.2), .d, .d, .d, .d, .d, .d, .d, .d], [], 0, []⟩
noncomputable def pow_L0_T (x0 : Int) (v : Int × Int) : Ex × St := ((.exit 0), ⟨(pow_L0_S x0 v).fr, (pow_L0_S x0 v).hp, 1, []⟩)
noncomputable def pow_L0_rd (ex : Ex) (s : St) : Option ((Int × Int) ⊕ (Int × Int)) × List (Nat × Option Nat) := match ex with
  | .normal => (some (.inl (rI (frC s 3 0), rI (frC s 4 0))), [])
  | .exit i => bif Nat.beq i 0 then (some (.inr (rI (frC s 3 0), rI (frC s 4 0))), []) else (none, [])
  | _ => (none, [])
noncomputable def pow_L0_step (x0 : Int) : (Int × Int) → Option ((Int × Int) ⊕ (Int × Int)) := fun v => match v with
  | (vi0, vi1) => bif (decide (vi1 < x0)) then (some (.inl (IntKind.i64.wrap ((2 : Int) * vi0), IntKind.i64.wrap (vi1 + (1 : Int))))) else some (.inr (vi0, vi1))
noncomputable def pow_L0_c : Code := loopC Tryd.prog 34 0
set_option maxRecDepth 100000 in
theorem pow_L0_ok (x0 : Int) : ∀ v, StepOk Tryd.prog 0 pow_L0_c (pow_L0_S x0) (pow_L0_T x0) v (pow_L0_step x0 v) := fun v => match v with | (vi0, vi1) => eng_step (C := (⟨consLc1, fun _ _ _ => none, fun f => false, noFacts, fun _ => 104⟩ : Cfg Tryd.prog)) noFacts_ok (n := 30) (f := 34) pow_L0_rd (fun _ => rfl) (by kernel_rfl)
noncomputable def pow_L0_p (x0 : Int) : Bool := (iter (pow_L0_step x0) 6 (1, 0)).isSome
noncomputable def pow_L0_v (x0 : Int) : Int × Int := loopRes (pow_L0_step x0) 6 (1, 0)
set_option maxRecDepth 100000 in
noncomputable def pow_L0_lc (x0 : Int) : LoopCon Tryd.prog := loopCon Tryd.prog 0 pow_L0_c [] (pow_L0_S x0) (pow_L0_T x0) 0 (pow_L0_step x0) (pow_L0_ok x0) 6 (1, 0) (pow_L0_p x0) rfl (pow_L0_v x0) rfl
noncomputable def pow_O (v : Int) : Out := ⟨.sv (.one (.val false (.int .i64 v))), [], 1, []⟩
noncomputable def pow_rd (out : Out) : Option (Int) := some (rI (rvC out.v 0 0))
noncomputable def pow_res (x0 : Int) : Option (Int) := bif (pow_L0_p x0) then some ((pow_L0_v x0).fst) else none
set_option maxRecDepth 100000 in
theorem pow_tree {x0 : Int} {v : Int} (h : pow_res x0 = some v) : CallOk Tryd.prog 34 [.sv (.one (.val false (.int .i64 x0)))] [] 0 (pow_O v) :=
  eng_tree (C := (⟨consLc1, fun f id nx => bif Nat.beq f 34 then (bif Nat.beq id 0 then some (pow_L0_lc x0) else none) else none, fun f => false, noFacts, fun _ => 104⟩ : Cfg Tryd.prog)) noFacts_ok (n := 30) (f := 34) pow_O pow_rd rfl (by kernel_rfl) h
end Go.Proofs.YtijidmcblpgfkaaDoor
