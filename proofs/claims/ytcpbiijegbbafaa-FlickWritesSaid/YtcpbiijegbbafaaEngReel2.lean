/- The next number of a reader. No condition. -/
import Derived.Test.YtcpbiijegbbafaaEngReel1
set_option linter.unusedVariables false
set_option linter.unusedSimpArgs false
namespace Go.Proofs.Ytcpbiijegbbafaa
open Go.RowKit

noncomputable def rrw_L0_S (x0_0 : List (List Ct)) (x0_1 : Int) (x1 : Int) (v : Int × Int) : St := ⟨[.o (.ptr 0 0), .o (.q x1), .d, .d, .o (.val true (.int .u64 0)), .o (.val false (.int .u64 v.1)), .d, .d, .o (.ptr 0 0), .o (.q x1), .o (.ext 7), .o (.q (↑(rtk_v x0_0 x0_1 x1).snd.snd.length : Int)), .o (.q v.2), .d, .d, .d, .d, .d, .d, .d, .d, .d, .d, .d, .d, .d], [(0, .cells [.ext 6, .q ((rtk_v x0_0 x0_1 x1).fst)] 183), (1, .grid ([Sh.int IntKind.u8]) x0_0), (6, .grid ([Sh.int IntKind.u8]) ((rtk_v x0_0 x0_1 x1).snd.fst)), (7, .grid ([Sh.int IntKind.u8]) ((rtk_v x0_0 x0_1 x1).snd.snd))], 8, [0]⟩
noncomputable def rrw_L0_T (x0_0 : List (List Ct)) (x0_1 : Int) (x1 : Int) (v : Int × Int) : Ex × St := ((.exit 0), ⟨(rrw_L0_S x0_0 x0_1 x1 v).fr, (rrw_L0_S x0_0 x0_1 x1 v).hp, 9, [0]⟩)
noncomputable def rrw_L0_rd (ex : Ex) (s : St) : Option ((Int × Int) ⊕ (Int × Int)) × List (Nat × Option Nat) := match ex with
  | .normal => (some (.inl (rI (frC s 5 0), rI (frC s 12 0))), [(6, some 6), (7, some 7)])
  | .exit i => bif Nat.beq i 0 then (some (.inr (rI (frC s 5 0), rI (frC s 12 0))), [(6, some 6), (7, some 7)]) else (none, [])
  | _ => (none, [])
noncomputable def rrw_L0_step (x0_0 : List (List Ct)) (x0_1 : Int) (x1 : Int) : (Int × Int) → Option ((Int × Int) ⊕ (Int × Int)) := fun v => match v with
  | (vi0, vi1) => bif (decide (vi1 < (↑(rtk_v x0_0 x0_1 x1).snd.snd.length : Int))) then (bif (decide ((0 : Int) ≤ vi1 ∧ vi1 < (↑(rtk_v x0_0 x0_1 x1).snd.snd.length : Int))) then bif (decide ((0 : Int) ≤ IntKind.i64.wrap ((8 : Int) * vi1))) then some (.inl (IntKind.u64.wrap (↑(BitVec.ofInt IntKind.u64.bits vi0 ||| BitVec.ofInt IntKind.u64.bits (IntKind.u64.wrap (IntKind.u64.wrap (rd (rtk_v x0_0 x0_1 x1).snd.snd vi1.toNat 0).int * (2 : Int) ^ min (IntKind.i64.wrap ((8 : Int) * vi1)).toNat IntKind.u64.bits))).toNat : Int), IntKind.i64.wrap (vi1 + (1 : Int)))) else none else none) else some (.inr (vi0, vi1))
noncomputable def rrw_L0_c : Code := loopC Try.prog 99 0
set_option maxRecDepth 100000 in
theorem rrw_L0_ok (x0_0 : List (List Ct)) (x0_1 : Int) (x1 : Int) : ∀ v, StepOk Try.prog 2 rrw_L0_c (rrw_L0_S x0_0 x0_1 x1) (rrw_L0_T x0_0 x0_1 x1) v (rrw_L0_step x0_0 x0_1 x1 v) := fun v => match v with | (vi0, vi1) => eng_step (C := (⟨consReel1, fun _ _ _ => none, fun f => false, noFacts, fun _ => 0⟩ : Cfg Try.prog)) noFacts_ok (n := 30) (f := 99) rrw_L0_rd (fun _ => rfl) (by kernel_rfl)
noncomputable def rrw_L0_p (x0_0 : List (List Ct)) (x0_1 : Int) (x1 : Int) : Bool := (iter (rrw_L0_step x0_0 x0_1 x1) 1000 (0, 0)).isSome
noncomputable def rrw_L0_v (x0_0 : List (List Ct)) (x0_1 : Int) (x1 : Int) : Int × Int := loopRes (rrw_L0_step x0_0 x0_1 x1) 1000 (0, 0)
noncomputable def rrw_L0_lc (x0_0 : List (List Ct)) (x0_1 : Int) (x1 : Int) : LoopCon Try.prog := loopCon Try.prog 2 rrw_L0_c [(6, some 6), (7, some 7)] (rrw_L0_S x0_0 x0_1 x1) (rrw_L0_T x0_0 x0_1 x1) 0 (rrw_L0_step x0_0 x0_1 x1) (rrw_L0_ok x0_0 x0_1 x1) 1000 (0, 0) (rrw_L0_p x0_0 x0_1 x1) rfl (rrw_L0_v x0_0 x0_1 x1) rfl
noncomputable def rrw_T (x0_0 : List (List Ct)) (x0_1 : Int) (x1 : Int) (v : Int × Int × List (List Ct)) : St := ⟨[.d, .d, .d, .d, .o (.val false (.int .u64 v.1)), .d, .d, .d, .d, .d, .d, .d, .d, .d, .d, .d, .d, .d, .d, .d, .d, .d, .d, .d, .d, .d], [(0, .cells [.ext 6, .q v.2.1] 183), (6, .grid ([Sh.int IntKind.u8]) v.2.2)], 9, [0]⟩
noncomputable def rrw_O (v : Int × Int × List (List Ct)) : Out := ⟨.sv (.one (.val false (.int .u64 v.1))), [(6, .grid ([Sh.int IntKind.u8]) v.2.2), (0, .cells [.ext 6, .val false (.int .i64 v.2.1)] 183)], 9, [0]⟩
noncomputable def rrw_rd (ex : Ex) (s : St) : Option (Int × Int × List (List Ct)) × List (Nat × Option Nat) := (some (rI (frC s 4 0), rI (hpC s 0 1), rL s (hpC s 0 0)), [(6, some 6)])
noncomputable def rrw_res (x0_0 : List (List Ct)) (x0_1 : Int) (x1 : Int) : Option (Int × Int × List (List Ct)) := bif ((rtk_res x0_0 x0_1 x1).isSome) then bif (rrw_L0_p x0_0 x0_1 x1) then some ((rrw_L0_v x0_0 x0_1 x1).fst, (rtk_v x0_0 x0_1 x1).fst, (rtk_v x0_0 x0_1 x1).snd.fst) else none else none
set_option maxRecDepth 100000 in
theorem rrw_tree {x0_0 : List (List Ct)} {x0_1 : Int} {x1 : Int} {v : Int × Int × List (List Ct)} (h : rrw_res x0_0 x0_1 x1 = some v) : CallOk Try.prog 99 [.sv (.one (.ptr 0 0)), .sv (.one (.val false (.int .i64 x1)))] [(0, .cells [.ext 1, .val false (.int .i64 x0_1)] 183), (1, .grid [.int .u8] x0_0)] 2 (rrw_O v) :=
  eng_body (C := (⟨consReel1, fun f id nx => bif Nat.beq f 99 then (bif Nat.beq id 0 then some (rrw_L0_lc x0_0 x0_1 x1) else none) else none, fun f => false, noFacts, fun _ => 0⟩ : Cfg Try.prog)) noFacts_ok (n := 30) (f := 99) (rrw_T x0_0 x0_1 x1) rrw_O rrw_rd rfl (fun r => rfl) (by kernel_rfl) h
noncomputable def rrw_v (x0_0 : List (List Ct)) (x0_1 : Int) (x1 : Int) : Int × Int × List (List Ct) := (rrw_res x0_0 x0_1 x1).getD default
theorem rrw_spec (x0_0 : List (List Ct)) (x0_1 : Int) (x1 : Int) (h : ((rrw_res x0_0 x0_1 x1).isSome) = true) : rrw_res x0_0 x0_1 x1 = some (rrw_v x0_0 x0_1 x1) := opt_get h
noncomputable def rrw_as : List ASh := [.ptr 183 [.grid [.int .u8], .int .i64], .one (.int .i64)]
noncomputable def rrw_con : Con Try.prog := conS Try.prog 99 rrw_as (fun x => some ((rrw_res (x.getD 0 (.i 0)).rows (x.getD 1 (.i 0)).int (x.getD 2 (.i 0)).int).isSome)) (fun x => rrw_O (rrw_v (x.getD 0 (.i 0)).rows (x.getD 1 (.i 0)).int (x.getD 2 (.i 0)).int))
  (fun x h => ⟨by kernel_rfl, by kernel_rfl, Eq.mp (by kernel_rfl) (@rrw_tree ((x.getD 0 (.i 0)).rows) ((x.getD 1 (.i 0)).int) ((x.getD 2 (.i 0)).int) _ (rrw_spec ((x.getD 0 (.i 0)).rows) ((x.getD 1 (.i 0)).int) ((x.getD 2 (.i 0)).int) (h _ rfl)))⟩)
noncomputable def consReel2 : List (Con Try.prog) := [rrw_con] ++ consReel1
end Go.Proofs.Ytcpbiijegbbafaa
