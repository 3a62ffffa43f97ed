/- The stable sort, of few. No condition. -/
import Derived.Test.YtmpaelkjooahoaaEngOrbitI
set_option linter.unusedVariables false
set_option linter.unusedSimpArgs false
namespace Go.Proofs.Ytmpaelkjooahoaa
open Go.RowKit

noncomputable def stb_L0_S (x0 : List (List Ct)) (x1 : Int) (v : Int × Int × List (List Ct)) : St := ⟨[.o (.ext 0), .o (.q x1), .o (CV.fn 83 []), .d, .d, .d, .o (.val true (.int .i64 20)), .o (.q v.1), .o (.q v.2.1), .d, .o (.val true (.int .i64 20)), .d, .d, .d, .d, .d, .d, .d, .d, .d, .d, .d, .d, .d, .d, .d, .d, .d, .d, .d, .d, .d, .d, .d, .d, .d, .d, .d, .d, .d, .d, .d, .d, .d, .d, .d, .d, .d, .d, .d, .d, .d, .d, .d, .d, .d, .d, .d, .d, .d, .d, .d, .d], [(0, .row ([Sh.int IntKind.i64, Sh.int IntKind.i64, Sh.int IntKind.i64, Sh.int IntKind.i64]) 86 v.2.2)], 1, [0]⟩
noncomputable def stb_L0_T (x0 : List (List Ct)) (x1 : Int) (v : Int × Int × List (List Ct)) : Ex × St := ((.exit 0), ⟨(stb_L0_S x0 x1 v).fr, (stb_L0_S x0 x1 v).hp, 2, [0]⟩)
noncomputable def stb_L0_rd (ex : Ex) (s : St) : Option ((Int × Int × List (List Ct)) ⊕ (Int × Int × List (List Ct))) × List (Nat × Option Nat) := match ex with
  | .normal => (some (.inl (rI (frC s 7 0), rI (frC s 8 0), hpL' s.hp 0)), [])
  | .exit i => bif Nat.beq i 0 then (some (.inr (rI (frC s 7 0), rI (frC s 8 0), hpL' s.hp 0)), []) else (none, [])
  | _ => (none, [])
noncomputable def stb_L0_step (x1 : Int) : (Int × Int × List (List Ct)) → Option ((Int × Int × List (List Ct)) ⊕ (Int × Int × List (List Ct))) := fun v => match v with
  | (vi0, vi1, vl0) => bif (decide (vi1 ≤ x1)) then (bif ((ins_res vl0 vi0 vi1).isSome) then some (.inl (vi1, IntKind.i64.wrap (vi1 + (20 : Int)), ins_v vl0 vi0 vi1)) else none) else some (.inr (vi0, vi1, vl0))
noncomputable def stb_L0_c : Code := loopC Try.prog 97 0
set_option maxRecDepth 100000 in
theorem stb_L0_ok (x0 : List (List Ct)) (x1 : Int) : ∀ v, StepOk Try.prog 1 stb_L0_c (stb_L0_S x0 x1) (stb_L0_T x0 x1) v (stb_L0_step x1 v) := fun v => match v with | (vi0, vi1, vl0) => eng_step (C := (⟨consOrbit3, fun _ _ _ => none, fun f => false, noFacts, fun _ => 0⟩ : Cfg Try.prog)) noFacts_ok (n := 30) (f := 97) stb_L0_rd (fun _ => rfl) (by kernel_rfl)
noncomputable def stb_L0_p (x0 : List (List Ct)) (x1 : Int) : Bool := (iter (stb_L0_step x1) (x1.toNat + 1) (0, 20, x0)).isSome
noncomputable def stb_L0_v (x0 : List (List Ct)) (x1 : Int) : Int × Int × List (List Ct) := loopRes (stb_L0_step x1) (x1.toNat + 1) (0, 20, x0)
set_option maxRecDepth 100000 in
noncomputable def stb_L0_lc (x0 : List (List Ct)) (x1 : Int) : LoopCon Try.prog := loopCon Try.prog 1 stb_L0_c [] (stb_L0_S x0 x1) (stb_L0_T x0 x1) 0 (stb_L0_step x1) (stb_L0_ok x0 x1) (x1.toNat + 1) (0, 20, x0) (stb_L0_p x0 x1) rfl (stb_L0_v x0 x1) rfl
noncomputable def stb_L4_S (x0 : List (List Ct)) (x1 : Int) (vi0 : Int) (vl0 : List (List Ct)) (v : Int × Int × List (List Ct)) : St := ⟨[.o (.ext 0), .o (.q x1), .o (CV.fn 83 []), .d, .d, .d, .o (.q vi0), .o (.q v.1), .o (.q v.2.1), .d, .o (.val true (.int .i64 20)), .d, .d, .d, .d, .d, .d, .d, .d, .d, .d, .d, .d, .o (.ext 0), .o (.q ((stb_L0_v x0 x1).fst)), .o (.q x1), .o (CV.fn 83 []), .d, .o (.q vi0), .o (.q x1), .o (.val true (.bool true)), .o (.q vi0), .o (.q (IntKind.i64.wrap ((2 : Int) * vi0))), .d, .d, .d, .d, .d, .d, .d, .d, .d, .d, .d, .d, .d, .d, .d, .d, .d, .d, .d, .d, .d, .d, .d, .d, .d, .d, .d, .d, .d, .d], [(0, .row ([Sh.int IntKind.i64, Sh.int IntKind.i64, Sh.int IntKind.i64, Sh.int IntKind.i64]) 86 v.2.2)], 4, [0]⟩
noncomputable def stb_L4_T (x0 : List (List Ct)) (x1 : Int) (vi0 : Int) (vl0 : List (List Ct)) (v : Int × Int × List (List Ct)) : Ex × St := ((.exit 4), ⟨(stb_L4_S x0 x1 vi0 vl0 v).fr, (stb_L4_S x0 x1 vi0 vl0 v).hp, 5, [0]⟩)
noncomputable def stb_L4_rd (ex : Ex) (s : St) : Option ((Int × Int × List (List Ct)) ⊕ (Int × Int × List (List Ct))) × List (Nat × Option Nat) := match ex with
  | .normal => (some (.inl (rI (frC s 7 0), rI (frC s 8 0), hpL' s.hp 0)), [])
  | .exit i => bif Nat.beq i 4 then (some (.inr (rI (frC s 7 0), rI (frC s 8 0), hpL' s.hp 0)), []) else (none, [])
  | _ => (none, [])
noncomputable def stb_L4_step (x1 : Int) (vi0 : Int) : (Int × Int × List (List Ct)) → Option ((Int × Int × List (List Ct)) ⊕ (Int × Int × List (List Ct))) := fun v => match v with
  | (wi0, wi1, wl0) => bif (decide (wi1 ≤ x1)) then (bif (smm_p wl0 wi0 (IntKind.i64.wrap (wi0 + vi0)) wi1) then some (.inl (wi1, IntKind.i64.wrap (wi1 + IntKind.i64.wrap ((2 : Int) * vi0)), smm_v wl0 wi0 (IntKind.i64.wrap (wi0 + vi0)) wi1)) else none) else some (.inr (wi0, wi1, wl0))
noncomputable def stb_L4_c : Code := loopC Try.prog 97 4
set_option maxRecDepth 100000 in
theorem stb_L4_ok (x0 : List (List Ct)) (x1 : Int) (vi0 : Int) (vl0 : List (List Ct)) : ∀ v, StepOk Try.prog 1 stb_L4_c (stb_L4_S x0 x1 vi0 vl0) (stb_L4_T x0 x1 vi0 vl0) v (stb_L4_step x1 vi0 v) := fun v => match v with | (wi0, wi1, wl0) => eng_step (C := (⟨consOrbit3, fun f id nx => bif Nat.beq f 97 then (bif Nat.beq id 0 then some (stb_L0_lc x0 x1) else none) else none, fun f => false, noFacts, fun _ => 0⟩ : Cfg Try.prog)) noFacts_ok (n := 30) (f := 97) stb_L4_rd (fun _ => rfl) (by kernel_rfl)
noncomputable def stb_L4_p (x1 : Int) (vi0 : Int) (vl0 : List (List Ct)) : Bool := (iter (stb_L4_step x1 vi0) (x1.toNat + 1) (0, (IntKind.i64.wrap ((2 : Int) * vi0)), vl0)).isSome
noncomputable def stb_L4_v (x1 : Int) (vi0 : Int) (vl0 : List (List Ct)) : Int × Int × List (List Ct) := loopRes (stb_L4_step x1 vi0) (x1.toNat + 1) (0, (IntKind.i64.wrap ((2 : Int) * vi0)), vl0)
set_option maxRecDepth 100000 in
noncomputable def stb_L4_lc (x0 : List (List Ct)) (x1 : Int) (vi0 : Int) (vl0 : List (List Ct)) : LoopCon Try.prog := loopCon Try.prog 1 stb_L4_c [] (stb_L4_S x0 x1 vi0 vl0) (stb_L4_T x0 x1 vi0 vl0) 4 (stb_L4_step x1 vi0) (stb_L4_ok x0 x1 vi0 vl0) (x1.toNat + 1) (0, (IntKind.i64.wrap ((2 : Int) * vi0)), vl0) (stb_L4_p x1 vi0 vl0) rfl (stb_L4_v x1 vi0 vl0) rfl
noncomputable def stb_L2_S (x0 : List (List Ct)) (x1 : Int) (v : Int × Int × Int × List (List Ct)) : St := ⟨[.o (.ext 0), .o (.q x1), .o (CV.fn 83 []), .d, .d, .d, .o (.q v.1), .o (.q v.2.1), .o (.q v.2.2.1), .d, .o (.val true (.int .i64 20)), .d, .d, .d, .d, .d, .d, .d, .d, .d, .d, .d, .d, .o (.ext 0), .o (.q ((stb_L0_v x0 x1).fst)), .o (.q x1), .o (CV.fn 83 []), .d, .d, .d, .d, .d, .d, .d, .d, .d, .d, .d, .d, .d, .d, .d, .d, .d, .d, .d, .d, .d, .d, .d, .d, .d, .d, .d, .d, .d, .d, .d, .d, .d, .d, .d, .d], [(0, .row ([Sh.int IntKind.i64, Sh.int IntKind.i64, Sh.int IntKind.i64, Sh.int IntKind.i64]) 86 v.2.2.2)], 3, [0]⟩
noncomputable def stb_L2_T (x0 : List (List Ct)) (x1 : Int) (v : Int × Int × Int × List (List Ct)) : Ex × St := ((.exit 2), ⟨(stb_L2_S x0 x1 v).fr, (stb_L2_S x0 x1 v).hp, 4, [0]⟩)
noncomputable def stb_L2_rd (ex : Ex) (s : St) : Option ((Int × Int × Int × List (List Ct)) ⊕ (Int × Int × Int × List (List Ct))) × List (Nat × Option Nat) := match ex with
  | .normal => (some (.inl (rI (frC s 6 0), rI (frC s 7 0), rI (frC s 8 0), hpL' s.hp 0)), [])
  | .exit i => bif Nat.beq i 2 then (some (.inr (rI (frC s 6 0), rI (frC s 7 0), rI (frC s 8 0), hpL' s.hp 0)), []) else (none, [])
  | _ => (none, [])
noncomputable def stb_L2_step (x1 : Int) : (Int × Int × Int × List (List Ct)) → Option ((Int × Int × Int × List (List Ct)) ⊕ (Int × Int × Int × List (List Ct))) := fun v => match v with
  | (vi0, vi1, vi2, vl0) => bif (decide (vi0 < x1)) then (bif (stb_L4_p x1 vi0 vl0) then bif (decide (IntKind.i64.wrap ((stb_L4_v x1 vi0 vl0).fst + vi0) < x1)) then (bif (smm_p (stb_L4_v x1 vi0 vl0).snd.snd (stb_L4_v x1 vi0 vl0).fst (IntKind.i64.wrap ((stb_L4_v x1 vi0 vl0).fst + vi0)) x1) then some (.inl (IntKind.i64.wrap (vi0 * (2 : Int)), (stb_L4_v x1 vi0 vl0).fst, (stb_L4_v x1 vi0 vl0).snd.fst, smm_v (stb_L4_v x1 vi0 vl0).snd.snd (stb_L4_v x1 vi0 vl0).fst (IntKind.i64.wrap ((stb_L4_v x1 vi0 vl0).fst + vi0)) x1)) else none) else some (.inl (IntKind.i64.wrap (vi0 * (2 : Int)), (stb_L4_v x1 vi0 vl0).fst, (stb_L4_v x1 vi0 vl0).snd.fst, (stb_L4_v x1 vi0 vl0).snd.snd)) else none) else some (.inr (vi0, vi1, vi2, vl0))
noncomputable def stb_L2_c : Code := loopC Try.prog 97 2
set_option maxRecDepth 100000 in
theorem stb_L2_ok (x0 : List (List Ct)) (x1 : Int) : ∀ v, StepOk Try.prog 1 stb_L2_c (stb_L2_S x0 x1) (stb_L2_T x0 x1) v (stb_L2_step x1 v) := fun v => match v with | (vi0, vi1, vi2, vl0) => eng_step (C := (⟨consOrbit3, fun f id nx => bif Nat.beq f 97 then (bif Nat.beq id 0 then some (stb_L0_lc x0 x1) else bif Nat.beq id 4 then some (stb_L4_lc x0 x1 vi0 vl0) else none) else none, fun f => false, noFacts, fun _ => 0⟩ : Cfg Try.prog)) noFacts_ok (n := 30) (f := 97) stb_L2_rd (fun _ => rfl) (by kernel_rfl)
noncomputable def stb_L2_p (x0 : List (List Ct)) (x1 : Int) : Bool := (iter (stb_L2_step x1) (x1.toNat + 1) (20, ((stb_L0_v x0 x1).fst), ((stb_L0_v x0 x1).snd.fst), (ins_v (stb_L0_v x0 x1).snd.snd (stb_L0_v x0 x1).fst x1))).isSome
noncomputable def stb_L2_v (x0 : List (List Ct)) (x1 : Int) : Int × Int × Int × List (List Ct) := loopRes (stb_L2_step x1) (x1.toNat + 1) (20, ((stb_L0_v x0 x1).fst), ((stb_L0_v x0 x1).snd.fst), (ins_v (stb_L0_v x0 x1).snd.snd (stb_L0_v x0 x1).fst x1))
set_option maxRecDepth 100000 in
noncomputable def stb_L2_lc (x0 : List (List Ct)) (x1 : Int) : LoopCon Try.prog := loopCon Try.prog 1 stb_L2_c [] (stb_L2_S x0 x1) (stb_L2_T x0 x1) 2 (stb_L2_step x1) (stb_L2_ok x0 x1) (x1.toNat + 1) (20, ((stb_L0_v x0 x1).fst), ((stb_L0_v x0 x1).snd.fst), (ins_v (stb_L0_v x0 x1).snd.snd (stb_L0_v x0 x1).fst x1)) (stb_L2_p x0 x1) rfl (stb_L2_v x0 x1) rfl
noncomputable def stb_T (x0 : List (List Ct)) (x1 : Int) (v : List (List Ct)) : St := ⟨[.d, .d, .d, .d, .d, .d, .d, .d, .d, .d, .d, .d, .d, .d, .d, .d, .d, .d, .d, .d, .d, .d, .d, .d, .d, .d, .d, .d, .d, .d, .d, .d, .d, .d, .d, .d, .d, .d, .d, .d, .d, .d, .d, .d, .d, .d, .d, .d, .d, .d, .d, .d, .d, .d, .d, .d, .d, .d, .d, .d, .d, .d, .d], [(0, .row ([Sh.int IntKind.i64, Sh.int IntKind.i64, Sh.int IntKind.i64, Sh.int IntKind.i64]) 86 v)], 4, [0]⟩
noncomputable def stb_O (v : List (List Ct)) : Out := ⟨.tup [], [(0, .row ([Sh.int IntKind.i64, Sh.int IntKind.i64, Sh.int IntKind.i64, Sh.int IntKind.i64]) 86 v)], 4, [0]⟩
noncomputable def stb_rd (ex : Ex) (s : St) : Option (List (List Ct)) × List (Nat × Option Nat) := (some (hpL' s.hp 0), [])
noncomputable def stb_res (x0 : List (List Ct)) (x1 : Int) : Option (List (List Ct)) := bif (stb_L0_p x0 x1) then bif ((ins_res (stb_L0_v x0 x1).snd.snd (stb_L0_v x0 x1).fst x1).isSome) then bif (stb_L2_p x0 x1) then some ((stb_L2_v x0 x1).snd.snd.snd) else none else none else none
set_option maxRecDepth 100000 in
theorem stb_tree {x0 : List (List Ct)} {x1 : Int} {v : List (List Ct)} (h : stb_res x0 x1 = some v) : CallOk Try.prog 97 [.sv (.one (.ext 0)), .sv (.one (.val false (.int .i64 x1))), .sv (.one (.fn 83 []))] [(0, .row [.int .i64, .int .i64, .int .i64, .int .i64] 86 x0)] 1 (stb_O v) :=
  eng_body (C := (⟨consOrbit3, fun f id nx => bif Nat.beq f 97 then (bif Nat.beq id 0 then some (stb_L0_lc x0 x1) else bif Nat.beq id 2 then some (stb_L2_lc x0 x1) else none) else none, fun f => false, noFacts, fun _ => 0⟩ : Cfg Try.prog)) noFacts_ok (n := 30) (f := 97) (stb_T x0 x1) stb_O stb_rd rfl (fun r => rfl) (by kernel_rfl) h
noncomputable def stb_v (x0 : List (List Ct)) (x1 : Int) : List (List Ct) := (stb_res x0 x1).getD default
theorem stb_spec (x0 : List (List Ct)) (x1 : Int) (h : ((stb_res x0 x1).isSome) = true) : stb_res x0 x1 = some (stb_v x0 x1) := opt_get h
noncomputable def stb_as : List ASh := [.one (.row [.int .i64, .int .i64, .int .i64, .int .i64] 86), .one (.int .i64), .one (.fn 83)]
noncomputable def stb_con : Con Try.prog := conS Try.prog 97 stb_as (fun x => some ((stb_res (x.getD 0 (.i 0)).rows (x.getD 1 (.i 0)).int).isSome)) (fun x => stb_O (stb_v (x.getD 0 (.i 0)).rows (x.getD 1 (.i 0)).int))
  (fun x h => ⟨by kernel_rfl, by kernel_rfl, Eq.mp (by kernel_rfl) (@stb_tree ((x.getD 0 (.i 0)).rows) ((x.getD 1 (.i 0)).int) _ (stb_spec ((x.getD 0 (.i 0)).rows) ((x.getD 1 (.i 0)).int) (h _ rfl)))⟩)
noncomputable def consOrbit4 : List (Con Try.prog) := [stb_con] ++ consOrbit3
end Go.Proofs.Ytmpaelkjooahoaa
