/- What stands ahead of a flick; how many bytes there are at most. No condition. -/
import Derived.Test.YtcpbiijegbbafaaEngReel4
import Derived.Test.YtcpbiijegbbafaaEngReel3B
set_option linter.unusedVariables false
set_option linter.unusedSimpArgs false
namespace Go.Proofs.Ytcpbiijegbbafaa
open Go.RowKit

noncomputable def fhd_L0_S (x0_0 : List (List Ct)) (x0_1 : Int) (v : Int × Int × List (List Ct)) : St := ⟨[.o (.ptr 0 0), .d, .o (.ptr 2 0), .o (.val true (.int .i64 0)), .d, .d, .d, .d, .d, .o (.sl 3 0 4 4), .o (.ext 4), .o (.q (↑[[Ct.i (70 : Int)], [Ct.i (76 : Int)], [Ct.i (75 : Int)], [Ct.i (49 : Int)]].length : Int)), .o (.q v.1), .d, .d, .d, .d, .d, .d, .d, .d, .d, .d, .d, .d, .d, .d, .d, .d, .d, .d, .d, .d, .d, .d, .d, .d, .d, .d, .d, .d, .d, .d, .d, .d, .d, .d, .d, .d, .d, .d, .d, .d, .d, .d, .d, .d, .d], [(0, .cells [.ext 5, .q v.2.1] 183), (1, .grid ([Sh.int IntKind.u8]) x0_0), (2, .cells [.val true (.int .i64 0), .val true (.int .i64 0)] 86), (3, .gone), (4, .grid ([Sh.int IntKind.u8]) ([[Ct.i (70 : Int)], [Ct.i (76 : Int)], [Ct.i (75 : Int)], [Ct.i (49 : Int)]])), (5, .grid ([Sh.int IntKind.u8]) v.2.2)], 6, [0]⟩
noncomputable def fhd_L0_T (x0_0 : List (List Ct)) (x0_1 : Int) (v : Int × Int × List (List Ct)) : Ex × St := ((.exit 0), ⟨(fhd_L0_S x0_0 x0_1 v).fr, (fhd_L0_S x0_0 x0_1 v).hp, 7, [0]⟩)
noncomputable def fhd_L0_rd (ex : Ex) (s : St) : Option ((Int × Int × List (List Ct)) ⊕ (Int × Int × List (List Ct))) × List (Nat × Option Nat) := match ex with
  | .normal => (some (.inl (rI (frC s 12 0), rI (hpC s 0 1), rL s (hpC s 0 0))), [(2, some 2), (3, some 3), (4, some 4), rnOf 5 (hpC s 0 0)])
  | .exit i => bif Nat.beq i 0 then (some (.inr (rI (frC s 12 0), rI (hpC s 0 1), rL s (hpC s 0 0))), [(2, some 2), (3, some 3), (4, some 4), (5, some 5)]) else (none, [])
  | _ => (none, [])
noncomputable def fhd_L0_step  : (Int × Int × List (List Ct)) → Option ((Int × Int × List (List Ct)) ⊕ (Int × Int × List (List Ct))) := fun v => match v with
  | (vi0, vi1, vl0) => bif (decide (vi0 < (↑[[Ct.i (70 : Int)], [Ct.i (76 : Int)], [Ct.i (75 : Int)], [Ct.i (49 : Int)]].length : Int))) then (bif (decide ((0 : Int) ≤ vi0 ∧ vi0 < (↑[[Ct.i (70 : Int)], [Ct.i (76 : Int)], [Ct.i (75 : Int)], [Ct.i (49 : Int)]].length : Int))) then bif ((rby_res vl0 vi1).isSome) then bif ((rby_v vl0 vi1).snd.fst == (0 : Int)) then (bif ((rby_v vl0 vi1).fst != IntKind.i64.wrap (rd [[Ct.i (70 : Int)], [Ct.i (76 : Int)], [Ct.i (75 : Int)], [Ct.i (49 : Int)]] vi0.toNat 0).int) then (bif ((rby_v vl0 vi1).snd.fst == (0 : Int)) then (some (.inl (IntKind.i64.wrap (vi0 + (1 : Int)), 20, []))) else some (.inl (IntKind.i64.wrap (vi0 + (1 : Int)), (rby_v vl0 vi1).snd.fst, (rby_v vl0 vi1).snd.snd))) else some (.inl (IntKind.i64.wrap (vi0 + (1 : Int)), (rby_v vl0 vi1).snd.fst, (rby_v vl0 vi1).snd.snd))) else some (.inl (IntKind.i64.wrap (vi0 + (1 : Int)), (rby_v vl0 vi1).snd.fst, (rby_v vl0 vi1).snd.snd)) else none else none) else some (.inr (vi0, vi1, vl0))
noncomputable def fhd_L0_c : Code := loopC Try.prog 89 0
set_option maxRecDepth 100000 in
theorem fhd_L0_ok (x0_0 : List (List Ct)) (x0_1 : Int) : ∀ v, StepOk Try.prog 2 fhd_L0_c (fhd_L0_S x0_0 x0_1) (fhd_L0_T x0_0 x0_1) v (fhd_L0_step  v) := fun v => match v with | (vi0, vi1, vl0) => eng_step (C := (⟨consReel4, fun _ _ _ => none, fun f => false, noFacts, fun _ => 0⟩ : Cfg Try.prog)) noFacts_ok (n := 30) (f := 89) fhd_L0_rd (fun _ => rfl) (by kernel_rfl)
noncomputable def fhd_L0_p (x0_0 : List (List Ct)) (x0_1 : Int) : Bool := (iter (fhd_L0_step ) 5 (0, x0_1, x0_0)).isSome
noncomputable def fhd_L0_v (x0_0 : List (List Ct)) (x0_1 : Int) : Int × Int × List (List Ct) := loopRes (fhd_L0_step ) 5 (0, x0_1, x0_0)
set_option maxRecDepth 100000 in
noncomputable def fhd_L0_lc (x0_0 : List (List Ct)) (x0_1 : Int) : LoopCon Try.prog := loopCon Try.prog 2 fhd_L0_c [(2, some 2), (3, some 3), (4, some 4), (5, some 1)] (fhd_L0_S x0_0 x0_1) (fhd_L0_T x0_0 x0_1) 0 (fhd_L0_step ) (fhd_L0_ok x0_0 x0_1) 5 (0, x0_1, x0_0) (fhd_L0_p x0_0 x0_1) rfl (fhd_L0_v x0_0 x0_1) rfl
noncomputable def fhd_T (x0_0 : List (List Ct)) (x0_1 : Int) (v : Int × Int × Int × Int × List (List Ct)) : St := ⟨[.d, .d, .o (.ptr 2 0), .o (.q v.1), .d, .d, .d, .d, .d, .d, .d, .d, .d, .d, .d, .d, .d, .d, .d, .d, .d, .d, .d, .d, .d, .d, .d, .d, .d, .d, .d, .d, .d, .d, .d, .d, .d, .d, .d, .d, .d, .d, .d, .d, .d, .d, .d, .d, .d, .d, .d, .d, .d, .d, .d, .d, .d, .d], [(0, .cells [.ext 38, .q v.2.1] 183), (2, .cells [.q v.2.2.1, .q v.2.2.2.1] 86), (38, .grid ([Sh.int IntKind.u8]) v.2.2.2.2)], 39, [0]⟩
noncomputable def fhd_O (v : Int × Int × Int × Int × List (List Ct)) : Out := ⟨.tup [.agg [.val false (.int .i64 v.2.2.1), .val false (.int .i64 v.2.2.2.1)], .one (.val false (.int .i64 v.1))], [(38, .grid ([Sh.int IntKind.u8]) v.2.2.2.2), (0, .cells [.ext 38, .val false (.int .i64 v.2.1)] 183)], 39, [0]⟩
noncomputable def fhd_rd (ex : Ex) (s : St) : Option (Int × Int × Int × Int × List (List Ct)) × List (Nat × Option Nat) := (some (rI (frC s 3 0), rI (hpC s 0 1), rI (hpC s 2 0), rI (hpC s 2 1), rL s (hpC s 0 0)), [(2, some 2), rnOf 38 (hpC s 0 0)])
noncomputable def fhd_c87334124 (x0_0 : List (List Ct)) (x0_1 : Int) : Int × Int × List (List Ct) := rby_v (fhd_L0_v x0_0 x0_1).snd.snd (fhd_L0_v x0_0 x0_1).snd.fst
noncomputable def fhd_c76998915 (x0_0 : List (List Ct)) (x0_1 : Int) : Int × Int × List (List Ct) := rby_v (fhd_c87334124 x0_0 x0_1).snd.snd (fhd_c87334124 x0_0 x0_1).snd.fst
noncomputable def fhd_c90579284 (x0_0 : List (List Ct)) (x0_1 : Int) : Int × Int × List (List Ct) := rby_v (fhd_c76998915 x0_0 x0_1).snd.snd (fhd_c76998915 x0_0 x0_1).snd.fst
noncomputable def fhd_res (x0_0 : List (List Ct)) (x0_1 : Int) : Option (Int × Int × Int × Int × List (List Ct)) := bif true then bif (fhd_L0_p x0_0 x0_1) then bif ((rby_res (fhd_L0_v x0_0 x0_1).snd.snd (fhd_L0_v x0_0 x0_1).snd.fst).isSome) then bif ((rby_res (fhd_c87334124 x0_0 x0_1).snd.snd (fhd_c87334124 x0_0 x0_1).snd.fst).isSome) then bif ((rby_res (fhd_c76998915 x0_0 x0_1).snd.snd (fhd_c76998915 x0_0 x0_1).snd.fst).isSome) then bif ((fhd_c90579284 x0_0 x0_1).snd.fst == (0 : Int)) then (bif (decide ((fhd_c87334124 x0_0 x0_1).fst ≥ (1 : Int))) then (bif (decide ((fhd_c87334124 x0_0 x0_1).fst ≤ (64 : Int))) then (bif (decide ((fhd_c76998915 x0_0 x0_1).fst ≥ (1 : Int))) then (bif (!decide ((fhd_c76998915 x0_0 x0_1).fst ≤ (64 : Int))) then (bif ((fhd_c90579284 x0_0 x0_1).snd.fst == (0 : Int)) then (some ((fhd_c90579284 x0_0 x0_1).fst, 21, (fhd_c87334124 x0_0 x0_1).fst, (fhd_c76998915 x0_0 x0_1).fst, [])) else some ((fhd_c90579284 x0_0 x0_1).fst, (fhd_c90579284 x0_0 x0_1).snd.fst, (fhd_c87334124 x0_0 x0_1).fst, (fhd_c76998915 x0_0 x0_1).fst, (fhd_c90579284 x0_0 x0_1).snd.snd)) else bif (decide ((fhd_c90579284 x0_0 x0_1).fst < (1 : Int))) then (bif ((fhd_c90579284 x0_0 x0_1).snd.fst == (0 : Int)) then (some ((fhd_c90579284 x0_0 x0_1).fst, 21, (fhd_c87334124 x0_0 x0_1).fst, (fhd_c76998915 x0_0 x0_1).fst, [])) else some ((fhd_c90579284 x0_0 x0_1).fst, (fhd_c90579284 x0_0 x0_1).snd.fst, (fhd_c87334124 x0_0 x0_1).fst, (fhd_c76998915 x0_0 x0_1).fst, (fhd_c90579284 x0_0 x0_1).snd.snd)) else bif (decide ((fhd_c90579284 x0_0 x0_1).fst > (32 : Int))) then (bif ((fhd_c90579284 x0_0 x0_1).snd.fst == (0 : Int)) then (some ((fhd_c90579284 x0_0 x0_1).fst, 21, (fhd_c87334124 x0_0 x0_1).fst, (fhd_c76998915 x0_0 x0_1).fst, [])) else some ((fhd_c90579284 x0_0 x0_1).fst, (fhd_c90579284 x0_0 x0_1).snd.fst, (fhd_c87334124 x0_0 x0_1).fst, (fhd_c76998915 x0_0 x0_1).fst, (fhd_c90579284 x0_0 x0_1).snd.snd)) else some ((fhd_c90579284 x0_0 x0_1).fst, (fhd_c90579284 x0_0 x0_1).snd.fst, (fhd_c87334124 x0_0 x0_1).fst, (fhd_c76998915 x0_0 x0_1).fst, (fhd_c90579284 x0_0 x0_1).snd.snd)) else bif ((fhd_c90579284 x0_0 x0_1).snd.fst == (0 : Int)) then (some ((fhd_c90579284 x0_0 x0_1).fst, 21, (fhd_c87334124 x0_0 x0_1).fst, (fhd_c76998915 x0_0 x0_1).fst, [])) else some ((fhd_c90579284 x0_0 x0_1).fst, (fhd_c90579284 x0_0 x0_1).snd.fst, (fhd_c87334124 x0_0 x0_1).fst, (fhd_c76998915 x0_0 x0_1).fst, (fhd_c90579284 x0_0 x0_1).snd.snd)) else bif ((fhd_c90579284 x0_0 x0_1).snd.fst == (0 : Int)) then (some ((fhd_c90579284 x0_0 x0_1).fst, 21, (fhd_c87334124 x0_0 x0_1).fst, (fhd_c76998915 x0_0 x0_1).fst, [])) else some ((fhd_c90579284 x0_0 x0_1).fst, (fhd_c90579284 x0_0 x0_1).snd.fst, (fhd_c87334124 x0_0 x0_1).fst, (fhd_c76998915 x0_0 x0_1).fst, (fhd_c90579284 x0_0 x0_1).snd.snd)) else bif ((fhd_c90579284 x0_0 x0_1).snd.fst == (0 : Int)) then (some ((fhd_c90579284 x0_0 x0_1).fst, 21, (fhd_c87334124 x0_0 x0_1).fst, (fhd_c76998915 x0_0 x0_1).fst, [])) else some ((fhd_c90579284 x0_0 x0_1).fst, (fhd_c90579284 x0_0 x0_1).snd.fst, (fhd_c87334124 x0_0 x0_1).fst, (fhd_c76998915 x0_0 x0_1).fst, (fhd_c90579284 x0_0 x0_1).snd.snd)) else some ((fhd_c90579284 x0_0 x0_1).fst, (fhd_c90579284 x0_0 x0_1).snd.fst, (fhd_c87334124 x0_0 x0_1).fst, (fhd_c76998915 x0_0 x0_1).fst, (fhd_c90579284 x0_0 x0_1).snd.snd) else none else none else none else none else none
set_option maxRecDepth 100000 in
theorem fhd_tree {x0_0 : List (List Ct)} {x0_1 : Int} {v : Int × Int × Int × Int × List (List Ct)} (h : fhd_res x0_0 x0_1 = some v) : CallOk Try.prog 89 [.sv (.one (.ptr 0 0))] [(0, .cells [.ext 1, .val false (.int .i64 x0_1)] 183), (1, .grid [.int .u8] x0_0)] 2 (fhd_O v) :=
  eng_body (C := (⟨consReel4, fun f id nx => bif Nat.beq f 89 then (bif Nat.beq id 0 then some (fhd_L0_lc x0_0 x0_1) else none) else none, fun f => false, noFacts, fun _ => 0⟩ : Cfg Try.prog)) noFacts_ok (n := 30) (f := 89) (fhd_T x0_0 x0_1) fhd_O fhd_rd rfl (fun r => rfl) (by kernel_rfl) h
noncomputable def fhd_v (x0_0 : List (List Ct)) (x0_1 : Int) : Int × Int × Int × Int × List (List Ct) := (fhd_res x0_0 x0_1).getD default
theorem fhd_spec (x0_0 : List (List Ct)) (x0_1 : Int) (h : ((fhd_res x0_0 x0_1).isSome) = true) : fhd_res x0_0 x0_1 = some (fhd_v x0_0 x0_1) := opt_get h
noncomputable def fhd_as : List ASh := [.ptr 183 [.grid [.int .u8], .int .i64]]
noncomputable def fhd_con : Con Try.prog := conS Try.prog 89 fhd_as (fun x => some ((fhd_res (x.getD 0 (.i 0)).rows (x.getD 1 (.i 0)).int).isSome)) (fun x => fhd_O (fhd_v (x.getD 0 (.i 0)).rows (x.getD 1 (.i 0)).int))
  (fun x h => ⟨by kernel_rfl, by kernel_rfl, Eq.mp (by kernel_rfl) (@fhd_tree ((x.getD 0 (.i 0)).rows) ((x.getD 1 (.i 0)).int) _ (fhd_spec ((x.getD 0 (.i 0)).rows) ((x.getD 1 (.i 0)).int) (h _ rfl)))⟩)

noncomputable def wst_O (v : Int) : Out := ⟨.sv (.one (.val false (.int .i64 v))), [], 2, []⟩
noncomputable def wst_rd (out : Out) : Option (Int) := some (rI (rvC out.v 0 0))
noncomputable def wst_res (x0 : Int) : Option (Int) := bif (decide (x0 ≤ (0 : Int))) then (some 0) else bif (decide (x0 > (1073741824 : Int))) then (some 0) else some (IntKind.i64.wrap (x0 + IntKind.i64.wrap ((IntKind.i64.wrap (IntKind.i64.wrap (x0 + (128 : Int)) - (1 : Int))).tdiv (128 : Int))))
set_option maxRecDepth 100000 in
theorem wst_tree {x0 : Int} {v : Int} (h : wst_res x0 = some v) : CallOk Try.prog 128 [.sv (.one (.val false (.int .i64 x0)))] [] 0 (wst_O v) :=
  eng_tree (C := (⟨[], fun _ _ _ => none, fun f => false, noFacts, fun _ => 0⟩ : Cfg Try.prog)) noFacts_ok (n := 30) (f := 128) wst_O wst_rd rfl (by kernel_rfl) h
noncomputable def wst_v (x0 : Int) : Int := (wst_res x0).getD default
theorem wst_spec (x0 : Int) (h : ((wst_res x0).isSome) = true) : wst_res x0 = some (wst_v x0) := opt_get h
noncomputable def wst_m (args : List RV) (hp : Hp) : Option ((Int) × List Nat) := match args with
  | [.sv (.one (.val _ (.int .i64 x0)))] => some (x0, [])
  | _ => none
noncomputable def wst_con : Con Try.prog := conX Try.prog 128 wst_m 0 (fun x => [.sv (.one (.val false (.int .i64 x)))]) (fun x => []) (fun x => some ((wst_res x).isSome)) (fun x => wst_O (wst_v x))
  (by
    intro args hp x r h
    unfold wst_m at h
    split at h
    · cases h
      exact ⟨rfl, fun nx => ⟨rfl, (fun i hi => by cases hi), fun id o0 ho => by simp [hlook] at ho⟩⟩
    · cases h)
  (fun x h => ⟨rfl, rfl, wst_tree (wst_spec x (h _ rfl))⟩)
noncomputable def consFk4 : List (Con Try.prog) := [fhd_con, rwo_con, rbl_con, wst_con] ++ consReel4
end Go.Proofs.Ytcpbiijegbbafaa
