/- A bar; a byte, so often. No condition. -/
import Derived.Test.YtjjijaeoafeocaaEngGl
set_option linter.unusedVariables false
set_option linter.unusedSimpArgs false
namespace Go.Proofs.Ytjjijaeoafeocaa
open Go.RowKit

noncomputable def bar_O (v : ByteArray) : Out := ⟨.sv (.one (.val false (.string v))), [], 1, []⟩
noncomputable def bar_rd (out : Out) : Option (ByteArray) := some (rS (rvC out.v 0 0))
noncomputable def bar_res (x0 x1 x2 : Int) : Option (ByteArray) := bif (decide ((if (1 : Int) > x1 then (1 : Int) else x1) ≠ (0 : Int))) then bif (decide ((ByteArray.mk #[(35 : UInt8)]).size = 1 ∧ (0 : Int) ≤ IntKind.i64.wrap ((IntKind.i64.wrap (x0 * x2)).tdiv (if (1 : Int) > x1 then (1 : Int) else x1)) ∧ IntKind.i64.wrap ((IntKind.i64.wrap (x0 * x2)).tdiv (if (1 : Int) > x1 then (1 : Int) else x1)) ≤ (140737488355328 : Int))) then some (timesS ((ByteArray.mk #[(35 : UInt8)]).data.toList.getD 0 (0 : UInt8)) (IntKind.i64.wrap ((IntKind.i64.wrap (x0 * x2)).tdiv (if (1 : Int) > x1 then (1 : Int) else x1)))) else none else none
set_option maxRecDepth 100000 in
theorem bar_tree {x0 x1 x2 : Int} {v : ByteArray} (h : bar_res x0 x1 x2 = some v) : CallOk Try.prog 26 [.sv (.one (.val false (.int .i64 x0))), .sv (.one (.val false (.int .i64 x1))), .sv (.one (.val false (.int .i64 x2)))] [] 0 (bar_O v) :=
  eng_tree (C := (⟨consGl, fun _ _ _ => none, fun f => false, noFacts, fun _ => 104⟩ : Cfg Try.prog)) noFacts_ok (n := 30) (f := 26) bar_O bar_rd rfl (by kernel_rfl) h
noncomputable def bar_v (x0 x1 x2 : Int) : ByteArray := (bar_res x0 x1 x2).getD default
theorem bar_spec (x0 x1 x2 : Int) (h : ((bar_res x0 x1 x2).isSome) = true) : bar_res x0 x1 x2 = some (bar_v x0 x1 x2) := opt_get h
noncomputable def bar_m (args : List RV) (hp : Hp) : Option ((Int × Int × Int) × List Nat) := match args with
  | [.sv (.one (.val _ (.int .i64 x0))), .sv (.one (.val _ (.int .i64 x1))), .sv (.one (.val _ (.int .i64 x2)))] => some ((x0, x1, x2), [])
  | _ => none
noncomputable def bar_con : Con Try.prog := conX Try.prog 26 bar_m 0 (fun x => [.sv (.one (.val false (.int .i64 x.1))), .sv (.one (.val false (.int .i64 x.2.1))), .sv (.one (.val false (.int .i64 x.2.2)))]) (fun x => []) (fun x => some ((bar_res x.1 x.2.1 x.2.2).isSome)) (fun x => bar_O (bar_v x.1 x.2.1 x.2.2))
  (by
    intro args hp x r h
    unfold bar_m at h
    split at h
    · cases h
      exact ⟨rfl, fun nx => ⟨rfl, (fun i hi => by cases hi), fun id o0 ho => by simp [hlook] at ho⟩⟩
    · cases h)
  (fun x h => ⟨rfl, rfl, bar_tree (bar_spec x.1 x.2.1 x.2.2 (h _ rfl))⟩)

noncomputable def tim_L0_S (x0 : Int) (x1 : Int) (v : Int × List (List Ct)) : St := ⟨[.o (.val false (.int .u8 x0)), .o (.q x1), .d, .d, .o (.val true (.string (ByteArray.mk #[]))), .o (.ext 0), .o (.q v.1), .d, .d, .d, .d, .d, .d, .d, .d, .d, .d, .d], [(0, .row ([Sh.int IntKind.u8]) 5 v.2)], 1, []⟩
noncomputable def tim_L0_T (x0 : Int) (x1 : Int) (v : Int × List (List Ct)) : Ex × St := ((.exit 0), ⟨(tim_L0_S x0 x1 v).fr, (tim_L0_S x0 x1 v).hp, 2, []⟩)
noncomputable def tim_L0_rd (ex : Ex) (s : St) : Option ((Int × List (List Ct)) ⊕ (Int × List (List Ct))) × List (Nat × Option Nat) := match ex with
  | .normal => (some (.inl (rI (frC s 6 0), rL s (frC s 5 0))), [rnOf 0 (frC s 5 0)])
  | .exit i => bif Nat.beq i 0 then (some (.inr (rI (frC s 6 0), rL s (frC s 5 0))), [(0, some 0)]) else (none, [])
  | _ => (none, [])
noncomputable def tim_L0_step (x0 : Int) (x1 : Int) : (Int × List (List Ct)) → Option ((Int × List (List Ct)) ⊕ (Int × List (List Ct))) := fun v => match v with
  | (vi0, vl0) => bif (decide (vi0 < x1)) then (bif (decide (vl0.length + [[Ct.i x0]].length ≤ 9223372036854775807 ∧ (vl0.length + [[Ct.i x0]].length) * 1 ≤ 140737488355328)) then some (.inl (IntKind.i64.wrap (vi0 + (1 : Int)), vl0 ++ [[Ct.i x0]])) else none) else some (.inr (vi0, vl0))
noncomputable def tim_L0_c : Code := loopC Try.prog 25 0
set_option maxRecDepth 100000 in
theorem tim_L0_ok (x0 : Int) (x1 : Int) : ∀ v, StepOk Try.prog 0 tim_L0_c (tim_L0_S x0 x1) (tim_L0_T x0 x1) v (tim_L0_step x0 x1 v) := fun v => match v with | (vi0, vl0) => eng_step (C := (⟨consGl, fun _ _ _ => none, fun f => false, noFacts, fun _ => 104⟩ : Cfg Try.prog)) noFacts_ok (n := 30) (f := 25) tim_L0_rd (fun _ => rfl) (by kernel_rfl)
noncomputable def tim_L0_p (x0 : Int) (x1 : Int) : Bool := (iter (tim_L0_step x0 x1) (x1.toNat + 1) (0, [])).isSome
noncomputable def tim_L0_v (x0 : Int) (x1 : Int) : Int × List (List Ct) := loopRes (tim_L0_step x0 x1) (x1.toNat + 1) (0, [])
set_option maxRecDepth 100000 in
noncomputable def tim_L0_lc (x0 : Int) (x1 : Int) : LoopCon Try.prog := loopCon Try.prog 0 tim_L0_c [(0, none)] (tim_L0_S x0 x1) (tim_L0_T x0 x1) 0 (tim_L0_step x0 x1) (tim_L0_ok x0 x1) (x1.toNat + 1) (0, []) (tim_L0_p x0 x1) rfl (tim_L0_v x0 x1) rfl
noncomputable def tim_O (v : ByteArray) : Out := ⟨.sv (.one (.val false (.string v))), [], 2, []⟩
noncomputable def tim_rd (out : Out) : Option (ByteArray) := some (rS (rvC out.v 0 0))
noncomputable def tim_res (x0 : Int) (x1 : Int) : Option (ByteArray) := bif (tim_L0_p x0 x1) then bif true then some (strOf (tim_L0_v x0 x1).snd) else none else none
set_option maxRecDepth 100000 in
theorem tim_tree {x0 : Int} {x1 : Int} {v : ByteArray} (h : tim_res x0 x1 = some v) : CallOk Try.prog 25 [.sv (.one (.val false (.int .u8 x0))), .sv (.one (.val false (.int .i64 x1)))] [] 0 (tim_O v) :=
  eng_tree (C := (⟨consGl, fun f id nx => bif Nat.beq f 25 then (bif Nat.beq id 0 then some (tim_L0_lc x0 x1) else none) else none, fun f => false, noFacts, fun _ => 104⟩ : Cfg Try.prog)) noFacts_ok (n := 30) (f := 25) tim_O tim_rd rfl (by kernel_rfl) h
noncomputable def tim_v (x0 : Int) (x1 : Int) : ByteArray := (tim_res x0 x1).getD default
theorem tim_spec (x0 : Int) (x1 : Int) (h : ((tim_res x0 x1).isSome) = true) : tim_res x0 x1 = some (tim_v x0 x1) := opt_get h
noncomputable def tim_m (args : List RV) (hp : Hp) : Option ((Int × Int) × List Nat) := match args with
  | [.sv (.one (.val _ (.int .u8 x0))), .sv (.one (.val _ (.int .i64 x1)))] => some ((x0, x1), [])
  | _ => none
noncomputable def tim_con : Con Try.prog := conX Try.prog 25 tim_m 0 (fun x => [.sv (.one (.val false (.int .u8 x.1))), .sv (.one (.val false (.int .i64 x.2)))]) (fun x => []) (fun x => some ((tim_res x.1 x.2).isSome)) (fun x => tim_O (tim_v x.1 x.2))
  (by
    intro args hp x r h
    unfold tim_m at h
    split at h
    · cases h
      exact ⟨rfl, fun nx => ⟨rfl, (fun i hi => by cases hi), fun id o0 ho => by simp [hlook] at ho⟩⟩
    · cases h)
  (fun x h => ⟨rfl, rfl, tim_tree (tim_spec x.1 x.2 (h _ rfl))⟩)
noncomputable def consGl1 : List (Con Try.prog) := [bar_con, tim_con] ++ consGl
end Go.Proofs.Ytjjijaeoafeocaa
