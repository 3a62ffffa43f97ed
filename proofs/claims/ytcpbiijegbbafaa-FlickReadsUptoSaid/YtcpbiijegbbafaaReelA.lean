/- EngReel1, EngReel2, EngReel3, EngReel3B, EngReel4, EngReel5, laid together. No condition. -/
import Derived.Test.YtcpbiijegbbafaaEngReelV
/- The next bytes of a reader. No condition. -/
set_option linter.unusedVariables false
set_option linter.unusedSimpArgs false
namespace Go.Proofs.Ytcpbiijegbbafaa
open Go.RowKit

noncomputable def rtk_T (x0_0 : List (List Ct)) (x0_1 : Int) (x1 : Int) (v : Int × List (List Ct) × List (List Ct)) : St := ⟨[.d, .d, .d, .d, .o (.ext 7), .d, .d, .d, .d, .d, .d, .d, .d, .d, .d, .d, .d, .d, .d, .d, .d, .d, .d, .d, .d, .d, .d, .d, .d, .d, .d, .d, .d, .d, .d, .d, .d, .d, .d, .d], [(0, .cells [.ext 6, .q v.1] 183), (6, .grid ([Sh.int IntKind.u8]) v.2.1), (7, .grid ([Sh.int IntKind.u8]) v.2.2)], 8, [0]⟩
noncomputable def rtk_O (v : Int × List (List Ct) × List (List Ct)) : Out := ⟨.sv (.one (.ext 7)), [(6, .grid ([Sh.int IntKind.u8]) v.2.1), (0, .cells [.ext 6, .val false (.int .i64 v.1)] 183), (7, .grid ([Sh.int IntKind.u8]) v.2.2)], 8, [0]⟩
noncomputable def rtk_rd (ex : Ex) (s : St) : Option (Int × List (List Ct) × List (List Ct)) × List (Nat × Option Nat) := (some (rI (hpC s 0 1), rL s (hpC s 0 0), rL s (frC s 4 0)), [rnOf 6 (hpC s 0 0), rnOf 7 (frC s 4 0)])
noncomputable def rtk_res (x0_0 : List (List Ct)) (x0_1 : Int) (x1 : Int) : Option (Int × List (List Ct) × List (List Ct)) := bif (x0_1 != (0 : Int)) then (some (x0_1, x0_0, [])) else bif (decide (x1 > (↑x0_0.length : Int))) then (bif (x0_1 == (0 : Int)) then (some (9, [], [])) else some (x0_1, x0_0, [])) else bif (decide ((0 : Int) ≤ (0 : Int) ∧ (0 : Int) ≤ x1 ∧ x1 ≤ (↑x0_0.length : Int))) then bif (decide ((0 : Int) ≤ x1 ∧ x1 ≤ (↑x0_0.length : Int) ∧ (↑x0_0.length : Int) ≤ (↑x0_0.length : Int))) then some (x0_1, partOf x0_0 x1 (↑x0_0.length : Int), partOf x0_0 (0 : Int) x1) else none else none
set_option maxRecDepth 100000 in
theorem rtk_tree {x0_0 : List (List Ct)} {x0_1 : Int} {x1 : Int} {v : Int × List (List Ct) × List (List Ct)} (h : rtk_res x0_0 x0_1 x1 = some v) : CallOk Try.prog 127 [.sv (.one (.ptr 0 0)), .sv (.one (.val false (.int .i64 x1)))] [(0, .cells [.ext 1, .val false (.int .i64 x0_1)] 183), (1, .grid [.int .u8] x0_0)] 2 (rtk_O v) :=
  eng_body (C := (⟨consReelV, fun _ _ _ => none, fun f => false, noFacts, fun _ => 0⟩ : Cfg Try.prog)) noFacts_ok (n := 30) (f := 127) (rtk_T x0_0 x0_1 x1) rtk_O rtk_rd rfl (fun r => rfl) (by kernel_rfl) h
noncomputable def rtk_v (x0_0 : List (List Ct)) (x0_1 : Int) (x1 : Int) : Int × List (List Ct) × List (List Ct) := (rtk_res x0_0 x0_1 x1).getD default
theorem rtk_spec (x0_0 : List (List Ct)) (x0_1 : Int) (x1 : Int) (h : ((rtk_res x0_0 x0_1 x1).isSome) = true) : rtk_res x0_0 x0_1 x1 = some (rtk_v x0_0 x0_1 x1) := opt_get h
noncomputable def rtk_as : List ASh := [.ptr 183 [.grid [.int .u8], .int .i64], .one (.int .i64)]
noncomputable def rtk_con : Con Try.prog := conS Try.prog 127 rtk_as (fun x => some ((rtk_res (x.getD 0 (.i 0)).rows (x.getD 1 (.i 0)).int (x.getD 2 (.i 0)).int).isSome)) (fun x => rtk_O (rtk_v (x.getD 0 (.i 0)).rows (x.getD 1 (.i 0)).int (x.getD 2 (.i 0)).int))
  (fun x h => ⟨by kernel_rfl, by kernel_rfl, Eq.mp (by kernel_rfl) (@rtk_tree ((x.getD 0 (.i 0)).rows) ((x.getD 1 (.i 0)).int) ((x.getD 2 (.i 0)).int) _ (rtk_spec ((x.getD 0 (.i 0)).rows) ((x.getD 1 (.i 0)).int) ((x.getD 2 (.i 0)).int) (h _ rfl)))⟩)
noncomputable def consReel1 : List (Con Try.prog) := [rtk_con] ++ consReelV
end Go.Proofs.Ytcpbiijegbbafaa

/- The next number of a reader. No condition. -/
set_option linter.unusedVariables false
set_option linter.unusedSimpArgs false
namespace Go.Proofs.Ytcpbiijegbbafaa
open Go.RowKit

noncomputable def rrw_L0_S (x0_0 : List (List Ct)) (x0_1 : Int) (x1 : Int) (v : Int × Int) : St := ⟨[.o (.ptr 0 0), .o (.q x1), .d, .d, .o (.val true (.int .u64 0)), .o (.val false (.int .u64 v.1)), .d, .d, .o (.ptr 0 0), .o (.q x1), .o (.ext 7), .o (.q (↑(rtk_v x0_0 x0_1 x1).snd.snd.length : Int)), .o (.q v.2), .d, .d, .d, .d, .d, .d, .d, .d, .d, .d, .d, .d, .d], [(0, .cells [.ext 6, .q ((rtk_v x0_0 x0_1 x1).fst)] 183), (1, .grid ([Sh.int IntKind.u8]) x0_0), (6, .grid ([Sh.int IntKind.u8]) ((rtk_v x0_0 x0_1 x1).snd.fst)), (7, .grid ([Sh.int IntKind.u8]) ((rtk_v x0_0 x0_1 x1).snd.snd))], 8, [0]⟩
noncomputable def rrw_L0_T (x0_0 : List (List Ct)) (x0_1 : Int) (x1 : Int) (v : Int × Int) : Ex × St := ((.exit 0), ⟨(rrw_L0_S x0_0 x0_1 x1 v).fr, (rrw_L0_S x0_0 x0_1 x1 v).hp, 9, [0]⟩)
noncomputable def rrw_L0_rd (ex : Ex) (s : St) : Option ((Int × Int) ⊕ (Int × Int)) × List (Nat × Option Nat) := match ex with
  | .normal => (some (.inl (rI (frC s 5 0), rI (frC s 12 0))), [(6, some 6), (7, some 7)])
  | .exit i => bif Nat.beq i 0 then (some (.inr (rI (frC s 5 0), rI (frC s 12 0))), [(6, some 6), (7, some 7)]) else (none, [])
  | _ => (none, [])
noncomputable def rrw_L0_step (x0_0 : List (List Ct)) (x0_1 : Int) (x1 : Int) : (Int × Int) → Option ((Int × Int) ⊕ (Int × Int)) := fun v => match v with
  | (vi0, vi1) => bif (decide (vi1 < (↑(rtk_v x0_0 x0_1 x1).snd.snd.length : Int))) then (bif (decide ((0 : Int) ≤ vi1 ∧ vi1 < (↑(rtk_v x0_0 x0_1 x1).snd.snd.length : Int))) then bif (decide ((0 : Int) ≤ IntKind.i64.wrap ((8 : Int) * vi1))) then some (.inl (IntKind.u64.wrap (↑(BitVec.ofInt IntKind.u64.bits vi0 ||| BitVec.ofInt IntKind.u64.bits (IntKind.u64.wrap (IntKind.u64.wrap (rd (rtk_v x0_0 x0_1 x1).snd.snd vi1.toNat 0).int * (2 : Int) ^ min (IntKind.i64.wrap ((8 : Int) * vi1)).toNat IntKind.u64.bits))).toNat : Int), IntKind.i64.wrap (vi1 + (1 : Int)))) else none else none) else some (.inr (vi0, vi1))
noncomputable def rrw_L0_c : Code := loopC Try.prog 99 0
set_option maxRecDepth 100000 in
theorem rrw_L0_ok (x0_0 : List (List Ct)) (x0_1 : Int) (x1 : Int) : ∀ v, StepOk Try.prog 2 rrw_L0_c (rrw_L0_S x0_0 x0_1 x1) (rrw_L0_T x0_0 x0_1 x1) v (rrw_L0_step x0_0 x0_1 x1 v) := fun v => match v with | (vi0, vi1) => eng_step (C := (⟨consReel1, fun _ _ _ => none, fun f => false, noFacts, fun _ => 0⟩ : Cfg Try.prog)) noFacts_ok (n := 30) (f := 99) rrw_L0_rd (fun _ => rfl) (by kernel_rfl)
noncomputable def rrw_L0_p (x0_0 : List (List Ct)) (x0_1 : Int) (x1 : Int) : Bool := (iter (rrw_L0_step x0_0 x0_1 x1) 1000 (0, 0)).isSome
noncomputable def rrw_L0_v (x0_0 : List (List Ct)) (x0_1 : Int) (x1 : Int) : Int × Int := loopRes (rrw_L0_step x0_0 x0_1 x1) 1000 (0, 0)
noncomputable def rrw_L0_lc (x0_0 : List (List Ct)) (x0_1 : Int) (x1 : Int) : LoopCon Try.prog := loopCon Try.prog 2 rrw_L0_c [(6, some 6), (7, some 7)] (rrw_L0_S x0_0 x0_1 x1) (rrw_L0_T x0_0 x0_1 x1) 0 (rrw_L0_step x0_0 x0_1 x1) (rrw_L0_ok x0_0 x0_1 x1) 1000 (0, 0) (rrw_L0_p x0_0 x0_1 x1) rfl (rrw_L0_v x0_0 x0_1 x1) rfl
noncomputable def rrw_T (x0_0 : List (List Ct)) (x0_1 : Int) (x1 : Int) (v : Int × Int × List (List Ct)) : St := ⟨[.d, .d, .d, .d, .o (.val false (.int .u64 v.1)), .d, .d, .d, .d, .d, .d, .d, .d, .d, .d, .d, .d, .d, .d, .d, .d, .d, .d, .d, .d, .d], [(0, .cells [.ext 6, .q v.2.1] 183), (6, .grid ([Sh.int IntKind.u8]) v.2.2)], 9, [0]⟩
noncomputable def rrw_O (v : Int × Int × List (List Ct)) : Out := ⟨.sv (.one (.val false (.int .u64 v.1))), [(6, .grid ([Sh.int IntKind.u8]) v.2.2), (0, .cells [.ext 6, .val false (.int .i64 v.2.1)] 183)], 9, [0]⟩
noncomputable def rrw_rd (ex : Ex) (s : St) : Option (Int × Int × List (List Ct)) × List (Nat × Option Nat) := (some (rI (frC s 4 0), rI (hpC s 0 1), rL s (hpC s 0 0)), [(6, some 6)])
noncomputable def rrw_res (x0_0 : List (List Ct)) (x0_1 : Int) (x1 : Int) : Option (Int × Int × List (List Ct)) := bif ((rtk_res x0_0 x0_1 x1).isSome) then bif (rrw_L0_p x0_0 x0_1 x1) then some ((rrw_L0_v x0_0 x0_1 x1).fst, (rtk_v x0_0 x0_1 x1).fst, (rtk_v x0_0 x0_1 x1).snd.fst) else none else none
set_option maxRecDepth 100000 in
theorem rrw_tree {x0_0 : List (List Ct)} {x0_1 : Int} {x1 : Int} {v : Int × Int × List (List Ct)} (h : rrw_res x0_0 x0_1 x1 = some v) : CallOk Try.prog 99 [.sv (.one (.ptr 0 0)), .sv (.one (.val false (.int .i64 x1)))] [(0, .cells [.ext 1, .val false (.int .i64 x0_1)] 183), (1, .grid [.int .u8] x0_0)] 2 (rrw_O v) :=
  eng_body (C := (⟨consReel1, fun f id nx => bif Nat.beq f 99 then (bif Nat.beq id 0 then some (rrw_L0_lc x0_0 x0_1 x1) else none) else none, fun f => false, noFacts, fun _ => 0⟩ : Cfg Try.prog)) noFacts_ok (n := 30) (f := 99) (rrw_T x0_0 x0_1 x1) rrw_O rrw_rd rfl (fun r => rfl) (by kernel_rfl) h
noncomputable def rrw_v (x0_0 : List (List Ct)) (x0_1 : Int) (x1 : Int) : Int × Int × List (List Ct) := (rrw_res x0_0 x0_1 x1).getD default
theorem rrw_spec (x0_0 : List (List Ct)) (x0_1 : Int) (x1 : Int) (h : ((rrw_res x0_0 x0_1 x1).isSome) = true) : rrw_res x0_0 x0_1 x1 = some (rrw_v x0_0 x0_1 x1) := opt_get h
noncomputable def rrw_as : List ASh := [.ptr 183 [.grid [.int .u8], .int .i64], .one (.int .i64)]
noncomputable def rrw_con : Con Try.prog := conS Try.prog 99 rrw_as (fun x => some ((rrw_res (x.getD 0 (.i 0)).rows (x.getD 1 (.i 0)).int (x.getD 2 (.i 0)).int).isSome)) (fun x => rrw_O (rrw_v (x.getD 0 (.i 0)).rows (x.getD 1 (.i 0)).int (x.getD 2 (.i 0)).int))
  (fun x h => ⟨by kernel_rfl, by kernel_rfl, Eq.mp (by kernel_rfl) (@rrw_tree ((x.getD 0 (.i 0)).rows) ((x.getD 1 (.i 0)).int) ((x.getD 2 (.i 0)).int) _ (rrw_spec ((x.getD 0 (.i 0)).rows) ((x.getD 1 (.i 0)).int) ((x.getD 2 (.i 0)).int) (h _ rfl)))⟩)
noncomputable def consReel2 : List (Con Try.prog) := [rrw_con] ++ consReel1
end Go.Proofs.Ytcpbiijegbbafaa

/- A reader's values. No condition. -/
set_option linter.unusedVariables false
set_option linter.unusedSimpArgs false
namespace Go.Proofs.Ytcpbiijegbbafaa
open Go.RowKit

noncomputable def rby_T (x0_0 : List (List Ct)) (x0_1 : Int) (v : Int × Int × List (List Ct)) : St := ⟨[.d, .d, .o (.q v.1), .d, .d, .d], [(0, .cells [.ext 6, .q v.2.1] 183), (6, .grid ([Sh.int IntKind.u8]) v.2.2)], 9, [0]⟩
noncomputable def rby_O (v : Int × Int × List (List Ct)) : Out := ⟨.sv (.one (.val false (.int .i64 v.1))), [(6, .grid ([Sh.int IntKind.u8]) v.2.2), (0, .cells [.ext 6, .val false (.int .i64 v.2.1)] 183)], 9, [0]⟩
noncomputable def rby_rd (ex : Ex) (s : St) : Option (Int × Int × List (List Ct)) × List (Nat × Option Nat) := (some (rI (frC s 2 0), rI (hpC s 0 1), rL s (hpC s 0 0)), [(6, some 6)])
noncomputable def rby_res (x0_0 : List (List Ct)) (x0_1 : Int) : Option (Int × Int × List (List Ct)) := bif ((rrw_res x0_0 x0_1 (1 : Int)).isSome) then some (IntKind.i64.wrap (rrw_v x0_0 x0_1 (1 : Int)).fst, (rrw_v x0_0 x0_1 (1 : Int)).snd.fst, (rrw_v x0_0 x0_1 (1 : Int)).snd.snd) else none
set_option maxRecDepth 100000 in
theorem rby_tree {x0_0 : List (List Ct)} {x0_1 : Int} {v : Int × Int × List (List Ct)} (h : rby_res x0_0 x0_1 = some v) : CallOk Try.prog 36 [.sv (.one (.ptr 0 0))] [(0, .cells [.ext 1, .val false (.int .i64 x0_1)] 183), (1, .grid [.int .u8] x0_0)] 2 (rby_O v) :=
  eng_body (C := (⟨consReel2, fun _ _ _ => none, fun f => false, noFacts, fun _ => 0⟩ : Cfg Try.prog)) noFacts_ok (n := 30) (f := 36) (rby_T x0_0 x0_1) rby_O rby_rd rfl (fun r => rfl) (by kernel_rfl) h
noncomputable def rby_v (x0_0 : List (List Ct)) (x0_1 : Int) : Int × Int × List (List Ct) := (rby_res x0_0 x0_1).getD default
theorem rby_spec (x0_0 : List (List Ct)) (x0_1 : Int) (h : ((rby_res x0_0 x0_1).isSome) = true) : rby_res x0_0 x0_1 = some (rby_v x0_0 x0_1) := opt_get h
noncomputable def rby_as : List ASh := [.ptr 183 [.grid [.int .u8], .int .i64]]
noncomputable def rby_con : Con Try.prog := conS Try.prog 36 rby_as (fun x => some ((rby_res (x.getD 0 (.i 0)).rows (x.getD 1 (.i 0)).int).isSome)) (fun x => rby_O (rby_v (x.getD 0 (.i 0)).rows (x.getD 1 (.i 0)).int))
  (fun x h => ⟨by kernel_rfl, by kernel_rfl, Eq.mp (by kernel_rfl) (@rby_tree ((x.getD 0 (.i 0)).rows) ((x.getD 1 (.i 0)).int) _ (rby_spec ((x.getD 0 (.i 0)).rows) ((x.getD 1 (.i 0)).int) (h _ rfl)))⟩)

noncomputable def rha_T (x0_0 : List (List Ct)) (x0_1 : Int) (v : Int × Int × List (List Ct)) : St := ⟨[.d, .d, .o (.q v.1), .d, .d, .d], [(0, .cells [.ext 6, .q v.2.1] 183), (6, .grid ([Sh.int IntKind.u8]) v.2.2)], 9, [0]⟩
noncomputable def rha_O (v : Int × Int × List (List Ct)) : Out := ⟨.sv (.one (.val false (.int .i64 v.1))), [(6, .grid ([Sh.int IntKind.u8]) v.2.2), (0, .cells [.ext 6, .val false (.int .i64 v.2.1)] 183)], 9, [0]⟩
noncomputable def rha_rd (ex : Ex) (s : St) : Option (Int × Int × List (List Ct)) × List (Nat × Option Nat) := (some (rI (frC s 2 0), rI (hpC s 0 1), rL s (hpC s 0 0)), [(6, some 6)])
noncomputable def rha_res (x0_0 : List (List Ct)) (x0_1 : Int) : Option (Int × Int × List (List Ct)) := bif ((rrw_res x0_0 x0_1 (2 : Int)).isSome) then some (IntKind.i64.wrap (rrw_v x0_0 x0_1 (2 : Int)).fst, (rrw_v x0_0 x0_1 (2 : Int)).snd.fst, (rrw_v x0_0 x0_1 (2 : Int)).snd.snd) else none
set_option maxRecDepth 100000 in
theorem rha_tree {x0_0 : List (List Ct)} {x0_1 : Int} {v : Int × Int × List (List Ct)} (h : rha_res x0_0 x0_1 = some v) : CallOk Try.prog 97 [.sv (.one (.ptr 0 0))] [(0, .cells [.ext 1, .val false (.int .i64 x0_1)] 183), (1, .grid [.int .u8] x0_0)] 2 (rha_O v) :=
  eng_body (C := (⟨consReel2, fun _ _ _ => none, fun f => false, noFacts, fun _ => 0⟩ : Cfg Try.prog)) noFacts_ok (n := 30) (f := 97) (rha_T x0_0 x0_1) rha_O rha_rd rfl (fun r => rfl) (by kernel_rfl) h
noncomputable def rha_v (x0_0 : List (List Ct)) (x0_1 : Int) : Int × Int × List (List Ct) := (rha_res x0_0 x0_1).getD default
theorem rha_spec (x0_0 : List (List Ct)) (x0_1 : Int) (h : ((rha_res x0_0 x0_1).isSome) = true) : rha_res x0_0 x0_1 = some (rha_v x0_0 x0_1) := opt_get h
noncomputable def rha_as : List ASh := [.ptr 183 [.grid [.int .u8], .int .i64]]
noncomputable def rha_con : Con Try.prog := conS Try.prog 97 rha_as (fun x => some ((rha_res (x.getD 0 (.i 0)).rows (x.getD 1 (.i 0)).int).isSome)) (fun x => rha_O (rha_v (x.getD 0 (.i 0)).rows (x.getD 1 (.i 0)).int))
  (fun x h => ⟨by kernel_rfl, by kernel_rfl, Eq.mp (by kernel_rfl) (@rha_tree ((x.getD 0 (.i 0)).rows) ((x.getD 1 (.i 0)).int) _ (rha_spec ((x.getD 0 (.i 0)).rows) ((x.getD 1 (.i 0)).int) (h _ rfl)))⟩)

noncomputable def rlo_T (x0_0 : List (List Ct)) (x0_1 : Int) (v : Int × Int × List (List Ct)) : St := ⟨[.d, .d, .o (.val false (.int .u64 v.1)), .d, .d], [(0, .cells [.ext 6, .q v.2.1] 183), (6, .grid ([Sh.int IntKind.u8]) v.2.2)], 9, [0]⟩
noncomputable def rlo_O (v : Int × Int × List (List Ct)) : Out := ⟨.sv (.one (.val false (.int .u64 v.1))), [(6, .grid ([Sh.int IntKind.u8]) v.2.2), (0, .cells [.ext 6, .val false (.int .i64 v.2.1)] 183)], 9, [0]⟩
noncomputable def rlo_rd (ex : Ex) (s : St) : Option (Int × Int × List (List Ct)) × List (Nat × Option Nat) := (some (rI (frC s 2 0), rI (hpC s 0 1), rL s (hpC s 0 0)), [(6, some 6)])
noncomputable def rlo_res (x0_0 : List (List Ct)) (x0_1 : Int) : Option (Int × Int × List (List Ct)) := bif ((rrw_res x0_0 x0_1 (8 : Int)).isSome) then some ((rrw_v x0_0 x0_1 (8 : Int)).fst, (rrw_v x0_0 x0_1 (8 : Int)).snd.fst, (rrw_v x0_0 x0_1 (8 : Int)).snd.snd) else none
set_option maxRecDepth 100000 in
theorem rlo_tree {x0_0 : List (List Ct)} {x0_1 : Int} {v : Int × Int × List (List Ct)} (h : rlo_res x0_0 x0_1 = some v) : CallOk Try.prog 98 [.sv (.one (.ptr 0 0))] [(0, .cells [.ext 1, .val false (.int .i64 x0_1)] 183), (1, .grid [.int .u8] x0_0)] 2 (rlo_O v) :=
  eng_body (C := (⟨consReel2, fun _ _ _ => none, fun f => false, noFacts, fun _ => 0⟩ : Cfg Try.prog)) noFacts_ok (n := 30) (f := 98) (rlo_T x0_0 x0_1) rlo_O rlo_rd rfl (fun r => rfl) (by kernel_rfl) h
noncomputable def rlo_v (x0_0 : List (List Ct)) (x0_1 : Int) : Int × Int × List (List Ct) := (rlo_res x0_0 x0_1).getD default
theorem rlo_spec (x0_0 : List (List Ct)) (x0_1 : Int) (h : ((rlo_res x0_0 x0_1).isSome) = true) : rlo_res x0_0 x0_1 = some (rlo_v x0_0 x0_1) := opt_get h
noncomputable def rlo_as : List ASh := [.ptr 183 [.grid [.int .u8], .int .i64]]
noncomputable def rlo_con : Con Try.prog := conS Try.prog 98 rlo_as (fun x => some ((rlo_res (x.getD 0 (.i 0)).rows (x.getD 1 (.i 0)).int).isSome)) (fun x => rlo_O (rlo_v (x.getD 0 (.i 0)).rows (x.getD 1 (.i 0)).int))
  (fun x h => ⟨by kernel_rfl, by kernel_rfl, Eq.mp (by kernel_rfl) (@rlo_tree ((x.getD 0 (.i 0)).rows) ((x.getD 1 (.i 0)).int) _ (rlo_spec ((x.getD 0 (.i 0)).rows) ((x.getD 1 (.i 0)).int) (h _ rfl)))⟩)

noncomputable def rsl_T (x0_0 : List (List Ct)) (x0_1 : Int) (v : Int × Int × List (List Ct)) : St := ⟨[.d, .d, .o (.q v.1), .d, .d, .d, .d], [(0, .cells [.ext 6, .q v.2.1] 183), (6, .grid ([Sh.int IntKind.u8]) v.2.2)], 9, [0]⟩
noncomputable def rsl_O (v : Int × Int × List (List Ct)) : Out := ⟨.sv (.one (.val false (.int .i64 v.1))), [(6, .grid ([Sh.int IntKind.u8]) v.2.2), (0, .cells [.ext 6, .val false (.int .i64 v.2.1)] 183)], 9, [0]⟩
noncomputable def rsl_rd (ex : Ex) (s : St) : Option (Int × Int × List (List Ct)) × List (Nat × Option Nat) := (some (rI (frC s 2 0), rI (hpC s 0 1), rL s (hpC s 0 0)), [(6, some 6)])
noncomputable def rsl_res (x0_0 : List (List Ct)) (x0_1 : Int) : Option (Int × Int × List (List Ct)) := bif ((rrw_res x0_0 x0_1 (2 : Int)).isSome) then some (IntKind.i64.wrap (IntKind.i16.wrap (rrw_v x0_0 x0_1 (2 : Int)).fst), (rrw_v x0_0 x0_1 (2 : Int)).snd.fst, (rrw_v x0_0 x0_1 (2 : Int)).snd.snd) else none
set_option maxRecDepth 100000 in
theorem rsl_tree {x0_0 : List (List Ct)} {x0_1 : Int} {v : Int × Int × List (List Ct)} (h : rsl_res x0_0 x0_1 = some v) : CallOk Try.prog 40 [.sv (.one (.ptr 0 0))] [(0, .cells [.ext 1, .val false (.int .i64 x0_1)] 183), (1, .grid [.int .u8] x0_0)] 2 (rsl_O v) :=
  eng_body (C := (⟨consReel2, fun _ _ _ => none, fun f => false, noFacts, fun _ => 0⟩ : Cfg Try.prog)) noFacts_ok (n := 30) (f := 40) (rsl_T x0_0 x0_1) rsl_O rsl_rd rfl (fun r => rfl) (by kernel_rfl) h
noncomputable def rsl_v (x0_0 : List (List Ct)) (x0_1 : Int) : Int × Int × List (List Ct) := (rsl_res x0_0 x0_1).getD default
theorem rsl_spec (x0_0 : List (List Ct)) (x0_1 : Int) (h : ((rsl_res x0_0 x0_1).isSome) = true) : rsl_res x0_0 x0_1 = some (rsl_v x0_0 x0_1) := opt_get h
noncomputable def rsl_as : List ASh := [.ptr 183 [.grid [.int .u8], .int .i64]]
noncomputable def rsl_con : Con Try.prog := conS Try.prog 40 rsl_as (fun x => some ((rsl_res (x.getD 0 (.i 0)).rows (x.getD 1 (.i 0)).int).isSome)) (fun x => rsl_O (rsl_v (x.getD 0 (.i 0)).rows (x.getD 1 (.i 0)).int))
  (fun x h => ⟨by kernel_rfl, by kernel_rfl, Eq.mp (by kernel_rfl) (@rsl_tree ((x.getD 0 (.i 0)).rows) ((x.getD 1 (.i 0)).int) _ (rsl_spec ((x.getD 0 (.i 0)).rows) ((x.getD 1 (.i 0)).int) (h _ rfl)))⟩)

noncomputable def rfx_T (x0_0 : List (List Ct)) (x0_1 : Int) (v : Int × Int × List (List Ct)) : St := ⟨[.d, .d, .o (.q v.1), .d, .d, .d, .d, .d, .d, .d, .d, .d, .d, .d, .d, .d, .d, .d], [(0, .cells [.ext 6, .q v.2.1] 183), (6, .grid ([Sh.int IntKind.u8]) v.2.2)], 12, [0]⟩
noncomputable def rfx_O (v : Int × Int × List (List Ct)) : Out := ⟨.sv (.one (.val false (.int .i64 v.1))), [(6, .grid ([Sh.int IntKind.u8]) v.2.2), (0, .cells [.ext 6, .val false (.int .i64 v.2.1)] 183)], 12, [0]⟩
noncomputable def rfx_rd (ex : Ex) (s : St) : Option (Int × Int × List (List Ct)) × List (Nat × Option Nat) := (some (rI (frC s 2 0), rI (hpC s 0 1), rL s (hpC s 0 0)), [rnOf 6 (hpC s 0 0)])
noncomputable def rfx_res (x0_0 : List (List Ct)) (x0_1 : Int) : Option (Int × Int × List (List Ct)) := bif ((rrw_res x0_0 x0_1 (5 : Int)).isSome) then bif (decide ((IntKind.i64.wrap (IntKind.u64.wrap ((rrw_v x0_0 x0_1 (5 : Int)).fst * (2 : Int) ^ min (Int.toNat (24 : Int)) IntKind.u64.bits))).fdiv ((2 : Int) ^ min (Int.toNat (24 : Int)) IntKind.i64.bits) > (2147483648 : Int))) then (bif ((rrw_v x0_0 x0_1 (5 : Int)).snd.fst == (0 : Int)) then (some (0, 33, [])) else some (0, (rrw_v x0_0 x0_1 (5 : Int)).snd.fst, (rrw_v x0_0 x0_1 (5 : Int)).snd.snd)) else bif (decide ((IntKind.i64.wrap (IntKind.u64.wrap ((rrw_v x0_0 x0_1 (5 : Int)).fst * (2 : Int) ^ min (Int.toNat (24 : Int)) IntKind.u64.bits))).fdiv ((2 : Int) ^ min (Int.toNat (24 : Int)) IntKind.i64.bits) < (-2147483648 : Int))) then (bif ((rrw_v x0_0 x0_1 (5 : Int)).snd.fst == (0 : Int)) then (some (0, 33, [])) else some (0, (rrw_v x0_0 x0_1 (5 : Int)).snd.fst, (rrw_v x0_0 x0_1 (5 : Int)).snd.snd)) else some ((IntKind.i64.wrap (IntKind.u64.wrap ((rrw_v x0_0 x0_1 (5 : Int)).fst * (2 : Int) ^ min (Int.toNat (24 : Int)) IntKind.u64.bits))).fdiv ((2 : Int) ^ min (Int.toNat (24 : Int)) IntKind.i64.bits), (rrw_v x0_0 x0_1 (5 : Int)).snd.fst, (rrw_v x0_0 x0_1 (5 : Int)).snd.snd) else none
set_option maxRecDepth 100000 in
theorem rfx_tree {x0_0 : List (List Ct)} {x0_1 : Int} {v : Int × Int × List (List Ct)} (h : rfx_res x0_0 x0_1 = some v) : CallOk Try.prog 38 [.sv (.one (.ptr 0 0))] [(0, .cells [.ext 1, .val false (.int .i64 x0_1)] 183), (1, .grid [.int .u8] x0_0)] 2 (rfx_O v) :=
  eng_body (C := (⟨consReel2, fun _ _ _ => none, fun f => false, noFacts, fun _ => 0⟩ : Cfg Try.prog)) noFacts_ok (n := 30) (f := 38) (rfx_T x0_0 x0_1) rfx_O rfx_rd rfl (fun r => rfl) (by kernel_rfl) h
noncomputable def rfx_v (x0_0 : List (List Ct)) (x0_1 : Int) : Int × Int × List (List Ct) := (rfx_res x0_0 x0_1).getD default
theorem rfx_spec (x0_0 : List (List Ct)) (x0_1 : Int) (h : ((rfx_res x0_0 x0_1).isSome) = true) : rfx_res x0_0 x0_1 = some (rfx_v x0_0 x0_1) := opt_get h
noncomputable def rfx_as : List ASh := [.ptr 183 [.grid [.int .u8], .int .i64]]
noncomputable def rfx_con : Con Try.prog := conS Try.prog 38 rfx_as (fun x => some ((rfx_res (x.getD 0 (.i 0)).rows (x.getD 1 (.i 0)).int).isSome)) (fun x => rfx_O (rfx_v (x.getD 0 (.i 0)).rows (x.getD 1 (.i 0)).int))
  (fun x h => ⟨by kernel_rfl, by kernel_rfl, Eq.mp (by kernel_rfl) (@rfx_tree ((x.getD 0 (.i 0)).rows) ((x.getD 1 (.i 0)).int) _ (rfx_spec ((x.getD 0 (.i 0)).rows) ((x.getD 1 (.i 0)).int) (h _ rfl)))⟩)

noncomputable def rrd_T (x0 : List (List Ct)) (v : List (List Ct)) : St := ⟨[.d, .d, .o (.ptr 3 0), .d, .d, .d, .d, .d], [(2, .row ([Sh.int IntKind.u8]) 5 v), (3, .cells [.ext 2, .val true (.int .i64 0)] 183)], 4, []⟩
noncomputable def rrd_O (v : List (List Ct)) : Out := ⟨.sv (.one (.ptr 3 0)), [(2, .row ([Sh.int IntKind.u8]) 5 v), (3, .cells [.ext 2, .val true (.int .i64 0)] 183)], 4, []⟩
noncomputable def rrd_rd (ex : Ex) (s : St) : Option (List (List Ct)) × List (Nat × Option Nat) := (some (rL s (hpC s 3 0)), [(2, some 2), (3, some 3)])
noncomputable def rrd_res (x0 : List (List Ct)) : Option (List (List Ct)) := bif (decide (0 + x0.length ≤ 9223372036854775807 ∧ (0 + x0.length) * 1 ≤ 140737488355328)) then some ([] ++ x0) else none
set_option maxRecDepth 100000 in
theorem rrd_tree {x0 : List (List Ct)} {v : List (List Ct)} (h : rrd_res x0 = some v) : CallOk Try.prog 31 [.sv (.one (.ext 0))] [(0, .grid [.int .u8] x0)] 1 (rrd_O v) :=
  eng_body (C := (⟨consReel2, fun _ _ _ => none, fun f => false, noFacts, fun _ => 0⟩ : Cfg Try.prog)) noFacts_ok (n := 30) (f := 31) (rrd_T x0) rrd_O rrd_rd rfl (fun r => rfl) (by kernel_rfl) h
noncomputable def rrd_v (x0 : List (List Ct)) : List (List Ct) := (rrd_res x0).getD default
theorem rrd_spec (x0 : List (List Ct)) (h : ((rrd_res x0).isSome) = true) : rrd_res x0 = some (rrd_v x0) := opt_get h
noncomputable def rrd_m (args : List RV) (hp : Hp) : Option ((List (List Ct)) × List Nat) := match args with
  | [.sv (.one (.ext i0))] => (match gridAt hp i0 [.int .u8] with
    | some x0 => some (x0, [i0])
    | _ => none)
  | _ => none
noncomputable def rrd_con : Con Try.prog := conX Try.prog 31 rrd_m 1 (fun x => [.sv (.one (.ext 0))]) (fun x => [(0, .grid [.int .u8] x)]) (fun x => some ((rrd_res x).isSome)) (fun x => rrd_O (rrd_v x))
  (by
    intro args hp x r h
    unfold rrd_m at h
    split at h
    · split at h
      · rename_i g0
        cases h
        refine ⟨rfl, fun nx => ⟨rfl, ?_, ?_⟩⟩
        · intro i hi
          simp only [List.mem_cons, List.not_mem_nil, or_false] at hi
          rcases hi with rfl
          · exact ⟨_, List.mem_of_getElem? (i := 0) rfl, .inl (by simp [RV.ids, SV.ids, CV.ids])⟩
        · intro id o0 ho
          have := hlook_mem ho
          simp only [List.mem_cons, Prod.mk.injEq, List.not_mem_nil, or_false] at this
          rcases this with ⟨rfl, rfl⟩
          · exact ⟨_, gridAt_spec g0, rfl⟩
      · cases h
    · cases h)
  (fun x h => ⟨rfl, rfl, rrd_tree (rrd_spec x (h _ rfl))⟩)
noncomputable def consReel3 : List (Con Try.prog) := [rby_con, rha_con, rlo_con, rsl_con, rfx_con, rrd_con.freezeR.freezeO] ++ consReel2
end Go.Proofs.Ytcpbiijegbbafaa

/- A reader's blobs. No condition. -/
set_option linter.unusedVariables false
set_option linter.unusedSimpArgs false
namespace Go.Proofs.Ytcpbiijegbbafaa
open Go.RowKit

noncomputable def rwo_T (x0_0 : List (List Ct)) (x0_1 : Int) (v : Int × Int × List (List Ct)) : St := ⟨[.d, .d, .o (.q v.1), .d, .d, .d], [(0, .cells [.ext 6, .q v.2.1] 183), (6, .grid ([Sh.int IntKind.u8]) v.2.2)], 9, [0]⟩
noncomputable def rwo_O (v : Int × Int × List (List Ct)) : Out := ⟨.sv (.one (.val false (.int .i64 v.1))), [(6, .grid ([Sh.int IntKind.u8]) v.2.2), (0, .cells [.ext 6, .val false (.int .i64 v.2.1)] 183)], 9, [0]⟩
noncomputable def rwo_rd (ex : Ex) (s : St) : Option (Int × Int × List (List Ct)) × List (Nat × Option Nat) := (some (rI (frC s 2 0), rI (hpC s 0 1), rL s (hpC s 0 0)), [(6, some 6)])
noncomputable def rwo_res (x0_0 : List (List Ct)) (x0_1 : Int) : Option (Int × Int × List (List Ct)) := bif ((rrw_res x0_0 x0_1 (4 : Int)).isSome) then some (IntKind.i64.wrap (rrw_v x0_0 x0_1 (4 : Int)).fst, (rrw_v x0_0 x0_1 (4 : Int)).snd.fst, (rrw_v x0_0 x0_1 (4 : Int)).snd.snd) else none
set_option maxRecDepth 100000 in
theorem rwo_tree {x0_0 : List (List Ct)} {x0_1 : Int} {v : Int × Int × List (List Ct)} (h : rwo_res x0_0 x0_1 = some v) : CallOk Try.prog 126 [.sv (.one (.ptr 0 0))] [(0, .cells [.ext 1, .val false (.int .i64 x0_1)] 183), (1, .grid [.int .u8] x0_0)] 2 (rwo_O v) :=
  eng_body (C := (⟨consReel2, fun _ _ _ => none, fun f => false, noFacts, fun _ => 0⟩ : Cfg Try.prog)) noFacts_ok (n := 30) (f := 126) (rwo_T x0_0 x0_1) rwo_O rwo_rd rfl (fun r => rfl) (by kernel_rfl) h
noncomputable def rwo_v (x0_0 : List (List Ct)) (x0_1 : Int) : Int × Int × List (List Ct) := (rwo_res x0_0 x0_1).getD default
theorem rwo_spec (x0_0 : List (List Ct)) (x0_1 : Int) (h : ((rwo_res x0_0 x0_1).isSome) = true) : rwo_res x0_0 x0_1 = some (rwo_v x0_0 x0_1) := opt_get h
noncomputable def rwo_as : List ASh := [.ptr 183 [.grid [.int .u8], .int .i64]]
noncomputable def rwo_con : Con Try.prog := conS Try.prog 126 rwo_as (fun x => some ((rwo_res (x.getD 0 (.i 0)).rows (x.getD 1 (.i 0)).int).isSome)) (fun x => rwo_O (rwo_v (x.getD 0 (.i 0)).rows (x.getD 1 (.i 0)).int))
  (fun x h => ⟨by kernel_rfl, by kernel_rfl, Eq.mp (by kernel_rfl) (@rwo_tree ((x.getD 0 (.i 0)).rows) ((x.getD 1 (.i 0)).int) _ (rwo_spec ((x.getD 0 (.i 0)).rows) ((x.getD 1 (.i 0)).int) (h _ rfl)))⟩)

noncomputable def rbl_T (x0_0 : List (List Ct)) (x0_1 : Int) (x1 : Int) (v : Int × List (List Ct) × List (List Ct)) : St := ⟨[.d, .d, .d, .d, .o (.ext 12), .d, .d, .d, .d, .d, .d, .d, .d, .d, .d, .d, .d, .d, .d], [(0, .cells [.ext 19, .q v.1] 183), (12, .grid ([Sh.int IntKind.u8]) v.2.1), (19, .grid ([Sh.int IntKind.u8]) v.2.2)], 20, [0]⟩
noncomputable def rbl_O (v : Int × List (List Ct) × List (List Ct)) : Out := ⟨.sv (.one (.ext 12)), [(19, .grid ([Sh.int IntKind.u8]) v.2.2), (0, .cells [.ext 19, .val false (.int .i64 v.1)] 183), (12, .grid ([Sh.int IntKind.u8]) v.2.1)], 20, [0]⟩
noncomputable def rbl_rd (ex : Ex) (s : St) : Option (Int × List (List Ct) × List (List Ct)) × List (Nat × Option Nat) := (some (rI (hpC s 0 1), rL s (frC s 4 0), rL s (hpC s 0 0)), [rnOf 12 (frC s 4 0), rnOf 19 (hpC s 0 0)])
noncomputable def rbl_res (x0_0 : List (List Ct)) (x0_1 : Int) (x1 : Int) : Option (Int × List (List Ct) × List (List Ct)) := bif ((rrw_res x0_0 x0_1 (4 : Int)).isSome) then bif (decide (IntKind.i64.wrap (rrw_v x0_0 x0_1 (4 : Int)).fst > if (0 : Int) > x1 then (0 : Int) else x1)) then (bif ((rrw_v x0_0 x0_1 (4 : Int)).snd.fst == (0 : Int)) then (bif (decide (0 + 0 ≤ 9223372036854775807 ∧ 0 * 1 ≤ 140737488355328)) then some (8, [] ++ [], []) else none) else bif ((rtk_res (rrw_v x0_0 x0_1 (4 : Int)).snd.snd (rrw_v x0_0 x0_1 (4 : Int)).snd.fst (IntKind.i64.wrap (rrw_v x0_0 x0_1 (4 : Int)).fst)).isSome) then bif (decide (0 + (rtk_v (rrw_v x0_0 x0_1 (4 : Int)).snd.snd (rrw_v x0_0 x0_1 (4 : Int)).snd.fst (IntKind.i64.wrap (rrw_v x0_0 x0_1 (4 : Int)).fst)).snd.snd.length ≤ 9223372036854775807 ∧ (0 + (rtk_v (rrw_v x0_0 x0_1 (4 : Int)).snd.snd (rrw_v x0_0 x0_1 (4 : Int)).snd.fst (IntKind.i64.wrap (rrw_v x0_0 x0_1 (4 : Int)).fst)).snd.snd.length) * 1 ≤ 140737488355328)) then some ((rtk_v (rrw_v x0_0 x0_1 (4 : Int)).snd.snd (rrw_v x0_0 x0_1 (4 : Int)).snd.fst (IntKind.i64.wrap (rrw_v x0_0 x0_1 (4 : Int)).fst)).fst, [] ++ (rtk_v (rrw_v x0_0 x0_1 (4 : Int)).snd.snd (rrw_v x0_0 x0_1 (4 : Int)).snd.fst (IntKind.i64.wrap (rrw_v x0_0 x0_1 (4 : Int)).fst)).snd.snd, (rtk_v (rrw_v x0_0 x0_1 (4 : Int)).snd.snd (rrw_v x0_0 x0_1 (4 : Int)).snd.fst (IntKind.i64.wrap (rrw_v x0_0 x0_1 (4 : Int)).fst)).snd.fst) else none else none) else bif ((rtk_res (rrw_v x0_0 x0_1 (4 : Int)).snd.snd (rrw_v x0_0 x0_1 (4 : Int)).snd.fst (IntKind.i64.wrap (rrw_v x0_0 x0_1 (4 : Int)).fst)).isSome) then bif (decide (0 + (rtk_v (rrw_v x0_0 x0_1 (4 : Int)).snd.snd (rrw_v x0_0 x0_1 (4 : Int)).snd.fst (IntKind.i64.wrap (rrw_v x0_0 x0_1 (4 : Int)).fst)).snd.snd.length ≤ 9223372036854775807 ∧ (0 + (rtk_v (rrw_v x0_0 x0_1 (4 : Int)).snd.snd (rrw_v x0_0 x0_1 (4 : Int)).snd.fst (IntKind.i64.wrap (rrw_v x0_0 x0_1 (4 : Int)).fst)).snd.snd.length) * 1 ≤ 140737488355328)) then some ((rtk_v (rrw_v x0_0 x0_1 (4 : Int)).snd.snd (rrw_v x0_0 x0_1 (4 : Int)).snd.fst (IntKind.i64.wrap (rrw_v x0_0 x0_1 (4 : Int)).fst)).fst, [] ++ (rtk_v (rrw_v x0_0 x0_1 (4 : Int)).snd.snd (rrw_v x0_0 x0_1 (4 : Int)).snd.fst (IntKind.i64.wrap (rrw_v x0_0 x0_1 (4 : Int)).fst)).snd.snd, (rtk_v (rrw_v x0_0 x0_1 (4 : Int)).snd.snd (rrw_v x0_0 x0_1 (4 : Int)).snd.fst (IntKind.i64.wrap (rrw_v x0_0 x0_1 (4 : Int)).fst)).snd.fst) else none else none else none
set_option maxRecDepth 100000 in
theorem rbl_tree {x0_0 : List (List Ct)} {x0_1 : Int} {x1 : Int} {v : Int × List (List Ct) × List (List Ct)} (h : rbl_res x0_0 x0_1 x1 = some v) : CallOk Try.prog 90 [.sv (.one (.ptr 0 0)), .sv (.one (.val false (.int .i64 x1)))] [(0, .cells [.ext 1, .val false (.int .i64 x0_1)] 183), (1, .grid [.int .u8] x0_0)] 2 (rbl_O v) :=
  eng_body (C := (⟨consReel2, fun _ _ _ => none, fun f => false, noFacts, fun _ => 0⟩ : Cfg Try.prog)) noFacts_ok (n := 30) (f := 90) (rbl_T x0_0 x0_1 x1) rbl_O rbl_rd rfl (fun r => rfl) (by kernel_rfl) h
noncomputable def rbl_v (x0_0 : List (List Ct)) (x0_1 : Int) (x1 : Int) : Int × List (List Ct) × List (List Ct) := (rbl_res x0_0 x0_1 x1).getD default
theorem rbl_spec (x0_0 : List (List Ct)) (x0_1 : Int) (x1 : Int) (h : ((rbl_res x0_0 x0_1 x1).isSome) = true) : rbl_res x0_0 x0_1 x1 = some (rbl_v x0_0 x0_1 x1) := opt_get h
noncomputable def rbl_as : List ASh := [.ptr 183 [.grid [.int .u8], .int .i64], .one (.int .i64)]
noncomputable def rbl_con : Con Try.prog := conS Try.prog 90 rbl_as (fun x => some ((rbl_res (x.getD 0 (.i 0)).rows (x.getD 1 (.i 0)).int (x.getD 2 (.i 0)).int).isSome)) (fun x => rbl_O (rbl_v (x.getD 0 (.i 0)).rows (x.getD 1 (.i 0)).int (x.getD 2 (.i 0)).int))
  (fun x h => ⟨by kernel_rfl, by kernel_rfl, Eq.mp (by kernel_rfl) (@rbl_tree ((x.getD 0 (.i 0)).rows) ((x.getD 1 (.i 0)).int) ((x.getD 2 (.i 0)).int) _ (rbl_spec ((x.getD 0 (.i 0)).rows) ((x.getD 1 (.i 0)).int) ((x.getD 2 (.i 0)).int) (h _ rfl)))⟩)
end Go.Proofs.Ytcpbiijegbbafaa

/- A reader's points and lights. No condition. -/
set_option linter.unusedVariables false
set_option linter.unusedSimpArgs false
namespace Go.Proofs.Ytcpbiijegbbafaa
open Go.RowKit

noncomputable def rvc_T (x0_0 : List (List Ct)) (x0_1 : Int) (v : Int × Int × Int × Int × List (List Ct)) : St := ⟨[.d, .d, .o (.ptr 2 0), .d, .d, .d, .d, .d, .d, .d, .d, .d, .d, .d, .d, .d], [(0, .cells [.ext 27, .q v.1] 183), (2, .cells [.q v.2.1, .q v.2.2.1, .q v.2.2.2.1] 111), (27, .grid ([Sh.int IntKind.u8]) v.2.2.2.2)], 35, [0]⟩
noncomputable def rvc_O (v : Int × Int × Int × Int × List (List Ct)) : Out := ⟨.sv (.agg [.val false (.int .i64 v.2.1), .val false (.int .i64 v.2.2.1), .val false (.int .i64 v.2.2.2.1)]), [(27, .grid ([Sh.int IntKind.u8]) v.2.2.2.2), (0, .cells [.ext 27, .val false (.int .i64 v.1)] 183)], 35, [0]⟩
noncomputable def rvc_rd (ex : Ex) (s : St) : Option (Int × Int × Int × Int × List (List Ct)) × List (Nat × Option Nat) := (some (rI (hpC s 0 1), rI (hpC s 2 0), rI (hpC s 2 1), rI (hpC s 2 2), rL s (hpC s 0 0)), [(2, some 2), (27, some 27)])
noncomputable def rvc_res (x0_0 : List (List Ct)) (x0_1 : Int) : Option (Int × Int × Int × Int × List (List Ct)) := bif ((rfx_res x0_0 x0_1).isSome) then bif ((rfx_res (rfx_v x0_0 x0_1).snd.snd (rfx_v x0_0 x0_1).snd.fst).isSome) then bif ((rfx_res (rfx_v (rfx_v x0_0 x0_1).snd.snd (rfx_v x0_0 x0_1).snd.fst).snd.snd (rfx_v (rfx_v x0_0 x0_1).snd.snd (rfx_v x0_0 x0_1).snd.fst).snd.fst).isSome) then bif ((rfx_v (rfx_v (rfx_v x0_0 x0_1).snd.snd (rfx_v x0_0 x0_1).snd.fst).snd.snd (rfx_v (rfx_v x0_0 x0_1).snd.snd (rfx_v x0_0 x0_1).snd.fst).snd.fst).snd.fst != (0 : Int)) then (some ((rfx_v (rfx_v (rfx_v x0_0 x0_1).snd.snd (rfx_v x0_0 x0_1).snd.fst).snd.snd (rfx_v (rfx_v x0_0 x0_1).snd.snd (rfx_v x0_0 x0_1).snd.fst).snd.fst).snd.fst, 0, 0, 0, (rfx_v (rfx_v (rfx_v x0_0 x0_1).snd.snd (rfx_v x0_0 x0_1).snd.fst).snd.snd (rfx_v (rfx_v x0_0 x0_1).snd.snd (rfx_v x0_0 x0_1).snd.fst).snd.fst).snd.snd)) else some ((rfx_v (rfx_v (rfx_v x0_0 x0_1).snd.snd (rfx_v x0_0 x0_1).snd.fst).snd.snd (rfx_v (rfx_v x0_0 x0_1).snd.snd (rfx_v x0_0 x0_1).snd.fst).snd.fst).snd.fst, (rfx_v x0_0 x0_1).fst, (rfx_v (rfx_v x0_0 x0_1).snd.snd (rfx_v x0_0 x0_1).snd.fst).fst, (rfx_v (rfx_v (rfx_v x0_0 x0_1).snd.snd (rfx_v x0_0 x0_1).snd.fst).snd.snd (rfx_v (rfx_v x0_0 x0_1).snd.snd (rfx_v x0_0 x0_1).snd.fst).snd.fst).fst, (rfx_v (rfx_v (rfx_v x0_0 x0_1).snd.snd (rfx_v x0_0 x0_1).snd.fst).snd.snd (rfx_v (rfx_v x0_0 x0_1).snd.snd (rfx_v x0_0 x0_1).snd.fst).snd.fst).snd.snd) else none else none else none
set_option maxRecDepth 100000 in
theorem rvc_tree {x0_0 : List (List Ct)} {x0_1 : Int} {v : Int × Int × Int × Int × List (List Ct)} (h : rvc_res x0_0 x0_1 = some v) : CallOk Try.prog 100 [.sv (.one (.ptr 0 0))] [(0, .cells [.ext 1, .val false (.int .i64 x0_1)] 183), (1, .grid [.int .u8] x0_0)] 2 (rvc_O v) :=
  eng_body (C := (⟨consReel3, fun _ _ _ => none, fun f => false, noFacts, fun _ => 0⟩ : Cfg Try.prog)) noFacts_ok (n := 30) (f := 100) (rvc_T x0_0 x0_1) rvc_O rvc_rd rfl (fun r => rfl) (by kernel_rfl) h
noncomputable def rvc_v (x0_0 : List (List Ct)) (x0_1 : Int) : Int × Int × Int × Int × List (List Ct) := (rvc_res x0_0 x0_1).getD default
theorem rvc_spec (x0_0 : List (List Ct)) (x0_1 : Int) (h : ((rvc_res x0_0 x0_1).isSome) = true) : rvc_res x0_0 x0_1 = some (rvc_v x0_0 x0_1) := opt_get h
noncomputable def rvc_as : List ASh := [.ptr 183 [.grid [.int .u8], .int .i64]]
noncomputable def rvc_con : Con Try.prog := conS Try.prog 100 rvc_as (fun x => some ((rvc_res (x.getD 0 (.i 0)).rows (x.getD 1 (.i 0)).int).isSome)) (fun x => rvc_O (rvc_v (x.getD 0 (.i 0)).rows (x.getD 1 (.i 0)).int))
  (fun x h => ⟨by kernel_rfl, by kernel_rfl, Eq.mp (by kernel_rfl) (@rvc_tree ((x.getD 0 (.i 0)).rows) ((x.getD 1 (.i 0)).int) _ (rvc_spec ((x.getD 0 (.i 0)).rows) ((x.getD 1 (.i 0)).int) (h _ rfl)))⟩)

noncomputable def rhu_T (x0_0 : List (List Ct)) (x0_1 : Int) (v : Int × Int × Int × Int × List (List Ct)) : St := ⟨[.d, .d, .o (.ptr 2 0), .d, .d, .d, .d, .d, .d, .d, .d, .d, .d, .d, .d, .d], [(0, .cells [.ext 27, .q v.1] 183), (2, .cells [.q v.2.1, .q v.2.2.1, .q v.2.2.2.1] 26), (27, .grid ([Sh.int IntKind.u8]) v.2.2.2.2)], 35, [0]⟩
noncomputable def rhu_O (v : Int × Int × Int × Int × List (List Ct)) : Out := ⟨.sv (.agg [.val false (.int .i64 v.2.1), .val false (.int .i64 v.2.2.1), .val false (.int .i64 v.2.2.2.1)]), [(27, .grid ([Sh.int IntKind.u8]) v.2.2.2.2), (0, .cells [.ext 27, .val false (.int .i64 v.1)] 183)], 35, [0]⟩
noncomputable def rhu_rd (ex : Ex) (s : St) : Option (Int × Int × Int × Int × List (List Ct)) × List (Nat × Option Nat) := (some (rI (hpC s 0 1), rI (hpC s 2 0), rI (hpC s 2 1), rI (hpC s 2 2), rL s (hpC s 0 0)), [(2, some 2), (27, some 27)])
noncomputable def rhu_res (x0_0 : List (List Ct)) (x0_1 : Int) : Option (Int × Int × Int × Int × List (List Ct)) := bif ((rfx_res x0_0 x0_1).isSome) then bif ((rfx_res (rfx_v x0_0 x0_1).snd.snd (rfx_v x0_0 x0_1).snd.fst).isSome) then bif ((rfx_res (rfx_v (rfx_v x0_0 x0_1).snd.snd (rfx_v x0_0 x0_1).snd.fst).snd.snd (rfx_v (rfx_v x0_0 x0_1).snd.snd (rfx_v x0_0 x0_1).snd.fst).snd.fst).isSome) then bif ((rfx_v (rfx_v (rfx_v x0_0 x0_1).snd.snd (rfx_v x0_0 x0_1).snd.fst).snd.snd (rfx_v (rfx_v x0_0 x0_1).snd.snd (rfx_v x0_0 x0_1).snd.fst).snd.fst).snd.fst != (0 : Int)) then (some ((rfx_v (rfx_v (rfx_v x0_0 x0_1).snd.snd (rfx_v x0_0 x0_1).snd.fst).snd.snd (rfx_v (rfx_v x0_0 x0_1).snd.snd (rfx_v x0_0 x0_1).snd.fst).snd.fst).snd.fst, 0, 0, 0, (rfx_v (rfx_v (rfx_v x0_0 x0_1).snd.snd (rfx_v x0_0 x0_1).snd.fst).snd.snd (rfx_v (rfx_v x0_0 x0_1).snd.snd (rfx_v x0_0 x0_1).snd.fst).snd.fst).snd.snd)) else some ((rfx_v (rfx_v (rfx_v x0_0 x0_1).snd.snd (rfx_v x0_0 x0_1).snd.fst).snd.snd (rfx_v (rfx_v x0_0 x0_1).snd.snd (rfx_v x0_0 x0_1).snd.fst).snd.fst).snd.fst, (rfx_v x0_0 x0_1).fst, (rfx_v (rfx_v x0_0 x0_1).snd.snd (rfx_v x0_0 x0_1).snd.fst).fst, (rfx_v (rfx_v (rfx_v x0_0 x0_1).snd.snd (rfx_v x0_0 x0_1).snd.fst).snd.snd (rfx_v (rfx_v x0_0 x0_1).snd.snd (rfx_v x0_0 x0_1).snd.fst).snd.fst).fst, (rfx_v (rfx_v (rfx_v x0_0 x0_1).snd.snd (rfx_v x0_0 x0_1).snd.fst).snd.snd (rfx_v (rfx_v x0_0 x0_1).snd.snd (rfx_v x0_0 x0_1).snd.fst).snd.fst).snd.snd) else none else none else none
set_option maxRecDepth 100000 in
theorem rhu_tree {x0_0 : List (List Ct)} {x0_1 : Int} {v : Int × Int × Int × Int × List (List Ct)} (h : rhu_res x0_0 x0_1 = some v) : CallOk Try.prog 37 [.sv (.one (.ptr 0 0))] [(0, .cells [.ext 1, .val false (.int .i64 x0_1)] 183), (1, .grid [.int .u8] x0_0)] 2 (rhu_O v) :=
  eng_body (C := (⟨consReel3, fun _ _ _ => none, fun f => false, noFacts, fun _ => 0⟩ : Cfg Try.prog)) noFacts_ok (n := 30) (f := 37) (rhu_T x0_0 x0_1) rhu_O rhu_rd rfl (fun r => rfl) (by kernel_rfl) h
noncomputable def rhu_v (x0_0 : List (List Ct)) (x0_1 : Int) : Int × Int × Int × Int × List (List Ct) := (rhu_res x0_0 x0_1).getD default
theorem rhu_spec (x0_0 : List (List Ct)) (x0_1 : Int) (h : ((rhu_res x0_0 x0_1).isSome) = true) : rhu_res x0_0 x0_1 = some (rhu_v x0_0 x0_1) := opt_get h
noncomputable def rhu_as : List ASh := [.ptr 183 [.grid [.int .u8], .int .i64]]
noncomputable def rhu_con : Con Try.prog := conS Try.prog 37 rhu_as (fun x => some ((rhu_res (x.getD 0 (.i 0)).rows (x.getD 1 (.i 0)).int).isSome)) (fun x => rhu_O (rhu_v (x.getD 0 (.i 0)).rows (x.getD 1 (.i 0)).int))
  (fun x h => ⟨by kernel_rfl, by kernel_rfl, Eq.mp (by kernel_rfl) (@rhu_tree ((x.getD 0 (.i 0)).rows) ((x.getD 1 (.i 0)).int) _ (rhu_spec ((x.getD 0 (.i 0)).rows) ((x.getD 1 (.i 0)).int) (h _ rfl)))⟩)
noncomputable def consReel4 : List (Con Try.prog) := [rvc_con, rhu_con] ++ consReel3
end Go.Proofs.Ytcpbiijegbbafaa

/- What is held. No condition. -/
set_option linter.unusedVariables false
set_option linter.unusedSimpArgs false
namespace Go.Proofs.Ytcpbiijegbbafaa
open Go.RowKit

noncomputable def heldR_O (v : Int) : Out := ⟨.sv (.one (.val false (.int .i64 v))), [], 2, []⟩
noncomputable def heldR_rd (out : Out) : Option (Int) := some (rI (rvC out.v 0 0))
noncomputable def heldR_res (x0 : Int) : Option (Int) := bif (decide (x0 > (2147483648 : Int))) then (some 2147483648) else bif (decide (x0 < (-2147483648 : Int))) then (some (-2147483648)) else some x0
set_option maxRecDepth 100000 in
theorem heldR_tree {x0 : Int} {v : Int} (h : heldR_res x0 = some v) : CallOk Try.prog 132 [.sv (.one (.val false (.int .i64 x0)))] [] 0 (heldR_O v) :=
  eng_tree (C := (⟨consReel4, fun _ _ _ => none, fun f => false, noFacts, fun _ => 4⟩ : Cfg Try.prog)) noFacts_ok (n := 30) (f := 132) heldR_O heldR_rd rfl (by kernel_rfl) h
noncomputable def heldR_v (x0 : Int) : Int := bif (decide (x0 > (2147483648 : Int))) then (2147483648) else bif (decide (x0 < (-2147483648 : Int))) then ((-2147483648)) else x0
theorem heldR_spec (x0 : Int) : heldR_res x0 = some (heldR_v x0) := by simp only [heldR_res, heldR_v, cond_some]
noncomputable def heldR_m (args : List RV) (hp : Hp) : Option ((Int) × List Nat) := match args with
  | [.sv (.one (.val _ (.int .i64 x0)))] => some (x0, [])
  | _ => none
noncomputable def heldR_con : Con Try.prog := conX Try.prog 132 heldR_m 0 (fun x => [.sv (.one (.val false (.int .i64 x)))]) (fun x => []) (fun x => none) (fun x => heldR_O (heldR_v x))
  (by
    intro args hp x r h
    unfold heldR_m at h
    split at h
    · cases h
      exact ⟨rfl, fun nx => ⟨rfl, (fun i hi => by cases hi), fun id o0 ho => by simp [hlook] at ho⟩⟩
    · cases h)
  (fun x h => ⟨rfl, rfl, heldR_tree (heldR_spec x)⟩)
noncomputable def consReel5 : List (Con Try.prog) := [heldR_con] ++ consReel4
end Go.Proofs.Ytcpbiijegbbafaa
