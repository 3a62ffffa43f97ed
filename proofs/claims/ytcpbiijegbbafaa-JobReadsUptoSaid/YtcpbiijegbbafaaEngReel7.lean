/- The next number of the document's reader. No condition. -/
import Derived.Test.YtcpbiijegbbafaaEngReel6
set_option linter.unusedVariables false
set_option linter.unusedSimpArgs false
namespace Go.Proofs.Ytcpbiijegbbafaa
open Go.RowKit

noncomputable def mnu_L0_S (x0_0 : List (List Ct)) (x0_1 x0_2 x1 : Int) (v : Int × Int) : St := ⟨[.o (.ptr 0 0), .o (.q x1), .d, .d, .o (.val true (.int .u64 0)), .o (.ext 6), .o (.val false (.int .u64 v.1)), .o (.q v.2), .o (.ptr 0 0), .o (.q x1), .o (.ext 6), .o (.ext 6), .o (.q (↑(mrw_v x0_0 x0_1 x0_2 x1).snd.snd.length : Int)), .o (.q (IntKind.i64.wrap ((↑(mrw_v x0_0 x0_1 x0_2 x1).snd.snd.length : Int) - (1 : Int)))), .d, .d, .d, .d, .d, .d, .d, .d, .d, .d, .d, .d, .d], [(0, .cells [.ext 1, .q ((mrw_v x0_0 x0_1 x0_2 x1).fst), .q ((mrw_v x0_0 x0_1 x0_2 x1).snd.fst)] 117), (1, .grid ([Sh.int IntKind.u8]) x0_0), (6, .row ([Sh.int IntKind.u8]) 5 ((mrw_v x0_0 x0_1 x0_2 x1).snd.snd))], 7, [0]⟩
noncomputable def mnu_L0_T (x0_0 : List (List Ct)) (x0_1 x0_2 x1 : Int) (v : Int × Int) : Ex × St := ((.exit 0), ⟨(mnu_L0_S x0_0 x0_1 x0_2 x1 v).fr, (mnu_L0_S x0_0 x0_1 x0_2 x1 v).hp, 8, [0]⟩)
noncomputable def mnu_L0_rd (ex : Ex) (s : St) : Option ((Int × Int) ⊕ (Int × Int)) × List (Nat × Option Nat) := match ex with
  | .normal => (some (.inl (rI (frC s 6 0), rI (frC s 7 0))), [(6, some 6)])
  | .exit i => bif Nat.beq i 0 then (some (.inr (rI (frC s 6 0), rI (frC s 7 0))), [(6, some 6)]) else (none, [])
  | _ => (none, [])
noncomputable def mnu_L0_step (x0_0 : List (List Ct)) (x0_1 x0_2 x1 : Int) : (Int × Int) → Option ((Int × Int) ⊕ (Int × Int)) := fun v => match v with
  | (vi0, vi1) => bif (decide (vi1 ≥ (0 : Int))) then (bif (decide ((0 : Int) ≤ vi1 ∧ vi1 < (↑(mrw_v x0_0 x0_1 x0_2 x1).snd.snd.length : Int))) then some (.inl (IntKind.u64.wrap (IntKind.u64.wrap (vi0 * (256 : Int)) + IntKind.u64.wrap (rd (mrw_v x0_0 x0_1 x0_2 x1).snd.snd vi1.toNat 0).int), IntKind.i64.wrap (vi1 - (1 : Int)))) else none) else some (.inr (vi0, vi1))
noncomputable def mnu_L0_c : Code := loopC Try.prog 43 0
set_option maxRecDepth 100000 in
theorem mnu_L0_ok (x0_0 : List (List Ct)) (x0_1 x0_2 x1 : Int) : ∀ v, StepOk Try.prog 2 mnu_L0_c (mnu_L0_S x0_0 x0_1 x0_2 x1) (mnu_L0_T x0_0 x0_1 x0_2 x1) v (mnu_L0_step x0_0 x0_1 x0_2 x1 v) := fun v => match v with | (vi0, vi1) => eng_step (C := (⟨consReel6, fun _ _ _ => none, fun f => false, noFacts, fun _ => 0⟩ : Cfg Try.prog)) noFacts_ok (n := 30) (f := 43) mnu_L0_rd (fun _ => rfl) (by kernel_rfl)
noncomputable def mnu_L0_p (x0_0 : List (List Ct)) (x0_1 x0_2 x1 : Int) : Bool := (iter (mnu_L0_step x0_0 x0_1 x0_2 x1) 1000 (0, (IntKind.i64.wrap ((↑(mrw_v x0_0 x0_1 x0_2 x1).snd.snd.length : Int) - (1 : Int))))).isSome
noncomputable def mnu_L0_v (x0_0 : List (List Ct)) (x0_1 x0_2 x1 : Int) : Int × Int := loopRes (mnu_L0_step x0_0 x0_1 x0_2 x1) 1000 (0, (IntKind.i64.wrap ((↑(mrw_v x0_0 x0_1 x0_2 x1).snd.snd.length : Int) - (1 : Int))))
noncomputable def mnu_L0_lc (x0_0 : List (List Ct)) (x0_1 x0_2 x1 : Int) : LoopCon Try.prog := loopCon Try.prog 2 mnu_L0_c [(6, some 6)] (mnu_L0_S x0_0 x0_1 x0_2 x1) (mnu_L0_T x0_0 x0_1 x0_2 x1) 0 (mnu_L0_step x0_0 x0_1 x0_2 x1) (mnu_L0_ok x0_0 x0_1 x0_2 x1) 1000 (0, (IntKind.i64.wrap ((↑(mrw_v x0_0 x0_1 x0_2 x1).snd.snd.length : Int) - (1 : Int)))) (mnu_L0_p x0_0 x0_1 x0_2 x1) rfl (mnu_L0_v x0_0 x0_1 x0_2 x1) rfl
noncomputable def mnu_T (x0_0 : List (List Ct)) (x0_1 x0_2 x1 : Int) (v : Int × Int × Int) : St := ⟨[.d, .d, .d, .d, .o (.val false (.int .u64 v.1)), .d, .d, .d, .d, .d, .d, .d, .d, .d, .d, .d, .d, .d, .d, .d, .d, .d, .d, .d, .d, .d, .d], [(0, .cells [.ext 1, .q v.2.1, .q v.2.2] 117), (1, .grid ([Sh.int IntKind.u8]) x0_0)], 8, [0]⟩
noncomputable def mnu_O (v : Int × Int × Int) : Out := ⟨.sv (.one (.val false (.int .u64 v.1))), [(0, .cells [.ext 1, .val false (.int .i64 v.2.1), .val false (.int .i64 v.2.2)] 117)], 8, [0]⟩
noncomputable def mnu_rd (ex : Ex) (s : St) : Option (Int × Int × Int) × List (Nat × Option Nat) := (some (rI (frC s 4 0), rI (hpC s 0 1), rI (hpC s 0 2)), [])
noncomputable def mnu_res (x0_0 : List (List Ct)) (x0_1 x0_2 x1 : Int) : Option (Int × Int × Int) := bif ((mrw_res x0_0 x0_1 x0_2 x1).isSome) then bif (mnu_L0_p x0_0 x0_1 x0_2 x1) then some ((mnu_L0_v x0_0 x0_1 x0_2 x1).fst, (mrw_v x0_0 x0_1 x0_2 x1).fst, (mrw_v x0_0 x0_1 x0_2 x1).snd.fst) else none else none
set_option maxRecDepth 100000 in
theorem mnu_tree {x0_0 : List (List Ct)} {x0_1 x0_2 x1 : Int} {v : Int × Int × Int} (h : mnu_res x0_0 x0_1 x0_2 x1 = some v) : CallOk Try.prog 43 [.sv (.one (.ptr 0 0)), .sv (.one (.val false (.int .i64 x1)))] [(0, .cells [.ext 1, .val false (.int .i64 x0_1), .val false (.int .i64 x0_2)] 117), (1, .grid [.int .u8] x0_0)] 2 (mnu_O v) :=
  eng_body (C := (⟨consReel6, fun f id nx => bif Nat.beq f 43 then (bif Nat.beq id 0 then some (mnu_L0_lc x0_0 x0_1 x0_2 x1) else none) else none, fun f => false, noFacts, fun _ => 0⟩ : Cfg Try.prog)) noFacts_ok (n := 30) (f := 43) (mnu_T x0_0 x0_1 x0_2 x1) mnu_O mnu_rd rfl (fun r => rfl) (by kernel_rfl) h
noncomputable def mnu_v (x0_0 : List (List Ct)) (x0_1 x0_2 x1 : Int) : Int × Int × Int := (mnu_res x0_0 x0_1 x0_2 x1).getD default
theorem mnu_spec (x0_0 : List (List Ct)) (x0_1 x0_2 x1 : Int) (h : ((mnu_res x0_0 x0_1 x0_2 x1).isSome) = true) : mnu_res x0_0 x0_1 x0_2 x1 = some (mnu_v x0_0 x0_1 x0_2 x1) := opt_get h
noncomputable def mnu_as : List ASh := [.ptr 117 [.grid [.int .u8], .int .i64, .int .i64], .one (.int .i64)]
noncomputable def mnu_con : Con Try.prog := conS Try.prog 43 mnu_as (fun x => some ((mnu_res (x.getD 0 (.i 0)).rows (x.getD 1 (.i 0)).int (x.getD 2 (.i 0)).int (x.getD 3 (.i 0)).int).isSome)) (fun x => mnu_O (mnu_v (x.getD 0 (.i 0)).rows (x.getD 1 (.i 0)).int (x.getD 2 (.i 0)).int (x.getD 3 (.i 0)).int))
  (fun x h => ⟨by kernel_rfl, by kernel_rfl, Eq.mp (by kernel_rfl) (@mnu_tree ((x.getD 0 (.i 0)).rows) ((x.getD 1 (.i 0)).int) ((x.getD 2 (.i 0)).int) ((x.getD 3 (.i 0)).int) _ (mnu_spec ((x.getD 0 (.i 0)).rows) ((x.getD 1 (.i 0)).int) ((x.getD 2 (.i 0)).int) ((x.getD 3 (.i 0)).int) (h _ rfl)))⟩)
noncomputable def consReel7 : List (Con Try.prog) := [mnu_con] ++ consReel6
end Go.Proofs.Ytcpbiijegbbafaa
