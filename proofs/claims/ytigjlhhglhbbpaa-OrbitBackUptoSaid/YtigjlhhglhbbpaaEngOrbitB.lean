/- Tracks later, shaken. No condition. -/
import Derived.Test.YtigjlhhglhbbpaaEngOrbit9
set_option linter.unusedVariables false
set_option linter.unusedSimpArgs false
namespace Go.Proofs.Ytigjlhhglhbbpaa
open Go.RowKit

noncomputable def srv_L0_S (x0 : List (List Ct)) (v : Int × Int × List (List Ct)) : St := ⟨[.sv (.one (.ext 0)), .dead, .sv (.one (.val false (.int .i64 v.1))), .sv (.one (.val false (.int .i64 v.2.1))), .sv (.one (.ext 0)), .sv (.one (.val false (.int .i64 (↑x0.length : Int)))), .sv (.one (.val false (.int .i64 (IntKind.i64.wrap ((↑x0.length : Int) - (1 : Int)))))), .dead, .dead, .dead, .dead, .dead, .dead, .dead, .dead, .dead, .dead, .dead, .dead, .dead, .dead, .dead, .dead, .dead, .dead, .dead, .dead, .dead], [(0, .row ([Sh.int IntKind.i64, Sh.int IntKind.i64, Sh.int IntKind.i64, Sh.int IntKind.i64]) 128 v.2.2)], 1, [0]⟩
noncomputable def srv_L0_T (x0 : List (List Ct)) (v : Int × Int × List (List Ct)) : Ex × St := ((.exit 0), ⟨[.sv (.one (.ext 0)), .dead, .sv (.one (.val false (.int .i64 v.1))), .sv (.one (.val false (.int .i64 v.2.1))), .sv (.one (.ext 0)), .sv (.one (.val false (.int .i64 (↑x0.length : Int)))), .sv (.one (.val false (.int .i64 (IntKind.i64.wrap ((↑x0.length : Int) - (1 : Int)))))), .dead, .dead, .dead, .dead, .dead, .dead, .dead, .dead, .dead, .dead, .dead, .dead, .dead, .dead, .dead, .dead, .dead, .dead, .dead, .dead, .dead], [(0, .row ([Sh.int IntKind.i64, Sh.int IntKind.i64, Sh.int IntKind.i64, Sh.int IntKind.i64]) 128 v.2.2)], 2, [0]⟩)
noncomputable def srv_L0_rd (ex : Ex) (s : St) : Option ((Int × Int × List (List Ct)) ⊕ (Int × Int × List (List Ct))) × List (Nat × Option Nat) := match ex with
  | .normal => (some (.inl (rI (frC s 2 0), rI (frC s 3 0), hpL' s.hp 0)), [])
  | .exit i => bif Nat.beq i 0 then (some (.inr (rI (frC s 2 0), rI (frC s 3 0), hpL' s.hp 0)), []) else (none, [])
  | _ => (none, [])
noncomputable def srv_L0_step  : (Int × Int × List (List Ct)) → Option ((Int × Int × List (List Ct)) ⊕ (Int × Int × List (List Ct))) := fun v => match v with
  | (vi0, vi1, vl0) => bif (decide (vi0 < vi1)) then (bif (decide ((0 : Int) ≤ vi1 ∧ vi1 < (↑vl0.length : Int))) then bif (decide ((0 : Int) ≤ vi0 ∧ vi0 < (↑vl0.length : Int))) then bif (decide ((0 : Int) ≤ vi0 ∧ vi0 < (↑vl0.length : Int))) then bif (decide ((0 : Int) ≤ vi1 ∧ vi1 < (↑(vl0.set vi0.toNat (updRow 4 0 [Ct.i (rd vl0 vi1.toNat 0).int, Ct.i (rd vl0 vi1.toNat 1).int, Ct.i (rd vl0 vi1.toNat 2).int, Ct.i (rd vl0 vi1.toNat 3).int] (vl0.getD vi0.toNat []))).length : Int))) then some (.inl (IntKind.i64.wrap (vi0 + (1 : Int)), IntKind.i64.wrap (vi1 - (1 : Int)), (vl0.set vi0.toNat (updRow 4 0 [Ct.i (rd vl0 vi1.toNat 0).int, Ct.i (rd vl0 vi1.toNat 1).int, Ct.i (rd vl0 vi1.toNat 2).int, Ct.i (rd vl0 vi1.toNat 3).int] (vl0.getD vi0.toNat []))).set vi1.toNat (updRow 4 0 [Ct.i (rd vl0 vi0.toNat 0).int, Ct.i (rd vl0 vi0.toNat 1).int, Ct.i (rd vl0 vi0.toNat 2).int, Ct.i (rd vl0 vi0.toNat 3).int] ((vl0.set vi0.toNat (updRow 4 0 [Ct.i (rd vl0 vi1.toNat 0).int, Ct.i (rd vl0 vi1.toNat 1).int, Ct.i (rd vl0 vi1.toNat 2).int, Ct.i (rd vl0 vi1.toNat 3).int] (vl0.getD vi0.toNat []))).getD vi1.toNat [])))) else none else none else none else none) else some (.inr (vi0, vi1, vl0))
noncomputable def srv_L0_c : Code := loopC Try.prog 72 0
set_option maxRecDepth 100000 in
theorem srv_L0_ok (x0 : List (List Ct)) : ∀ v, StepOk Try.prog 1 srv_L0_c (srv_L0_S x0) (srv_L0_T x0) v (srv_L0_step  v) := fun v => match v with | (vi0, vi1, vl0) => eng_step (C := (⟨consOrbit9, fun _ _ _ => none, fun f => false, noFacts, fun _ => 0⟩ : Cfg Try.prog)) noFacts_ok (n := 30) (f := 72) srv_L0_rd (fun _ => rfl) (by kernel_rfl)
noncomputable def srv_L0_p (x0 : List (List Ct)) : Bool := (iter (srv_L0_step ) (x0.length + 1) (0, (IntKind.i64.wrap ((↑x0.length : Int) - (1 : Int))), x0)).isSome
noncomputable def srv_L0_v (x0 : List (List Ct)) : Int × Int × List (List Ct) := loopRes (srv_L0_step ) (x0.length + 1) (0, (IntKind.i64.wrap ((↑x0.length : Int) - (1 : Int))), x0)
noncomputable def srv_L0_lc (x0 : List (List Ct)) : LoopCon Try.prog := loopCon Try.prog 1 srv_L0_c [] (srv_L0_S x0) (srv_L0_T x0) 0 (srv_L0_step ) (srv_L0_ok x0) (x0.length + 1) (0, (IntKind.i64.wrap ((↑x0.length : Int) - (1 : Int))), x0) (srv_L0_p x0) rfl (srv_L0_v x0) rfl
noncomputable def srv_T (x0 : List (List Ct)) (v : List (List Ct)) : St := ⟨[.dead, .dead, .dead, .dead, .dead, .dead, .dead, .dead, .dead, .dead, .dead, .dead, .dead, .dead, .dead, .dead, .dead, .dead, .dead, .dead, .dead, .dead, .dead, .dead, .dead, .dead, .dead, .dead], [(0, .row ([Sh.int IntKind.i64, Sh.int IntKind.i64, Sh.int IntKind.i64, Sh.int IntKind.i64]) 128 v)], 2, [0]⟩
noncomputable def srv_O (v : List (List Ct)) : Out := ⟨.tup [], [(0, .row ([Sh.int IntKind.i64, Sh.int IntKind.i64, Sh.int IntKind.i64, Sh.int IntKind.i64]) 128 v)], 2, [0]⟩
noncomputable def srv_rd (ex : Ex) (s : St) : Option (List (List Ct)) × List (Nat × Option Nat) := (some (hpL' s.hp 0), [])
noncomputable def srv_res (x0 : List (List Ct)) : Option (List (List Ct)) := bif (srv_L0_p x0) then some ((srv_L0_v x0).snd.snd) else none
set_option maxRecDepth 100000 in
theorem srv_tree {x0 : List (List Ct)} {v : List (List Ct)} (h : srv_res x0 = some v) : CallOk Try.prog 72 [.sv (.one (.ext 0))] [(0, .row [.int .i64, .int .i64, .int .i64, .int .i64] 128 x0)] 1 (srv_O v) :=
  eng_body (C := (⟨consOrbit9, fun f id nx => bif Nat.beq f 72 then (bif Nat.beq id 0 then some (srv_L0_lc x0) else none) else none, fun f => false, noFacts, fun _ => 0⟩ : Cfg Try.prog)) noFacts_ok (n := 30) (f := 72) (srv_T x0) srv_O srv_rd rfl (fun r => rfl) (by kernel_rfl) h
noncomputable def srv_v (x0 : List (List Ct)) : List (List Ct) := (srv_res x0).getD default
theorem srv_spec (x0 : List (List Ct)) (h : ((srv_res x0).isSome) = true) : srv_res x0 = some (srv_v x0) := opt_get h
noncomputable def srv_as : List ASh := [.one (.row [.int .i64, .int .i64, .int .i64, .int .i64] 128)]
noncomputable def srv_con : Con Try.prog := conS Try.prog 72 srv_as (fun x => some ((srv_res (x.getD 0 (.i 0)).rows).isSome)) (fun x => srv_O (srv_v (x.getD 0 (.i 0)).rows))
  (fun x h => ⟨by kernel_rfl, by kernel_rfl, Eq.mp (by kernel_rfl) (@srv_tree ((x.getD 0 (.i 0)).rows) _ (srv_spec ((x.getD 0 (.i 0)).rows) (h _ rfl)))⟩)

noncomputable def ola_L0_S (x0_0 : Int) (x0_1 : List (List Ct)) (x1 : Int) (v : Int × List (List Ct)) : St := ⟨[.sv (.agg [.val false (.int .i64 x0_0), .ext 0]), .sv (.one (.val false (.int .i64 x1))), .sv (.one (.ptr 1 0)), .dead, .sv (.one (.ptr 2 0)), .sv (.one (.val true (.int .i64 0))), .sv (.one (.ext 29)), .dead, .sv (.agg [.val false (.int .i64 x0_0), .ext 0]), .sv (.one (.val false (.bool (trt_v x0_0 x0_1)))), .sv (.one (.val false (.bool (!trt_v x0_0 x0_1)))), .sv (.one (.val true (.bool false))), .sv (.one (.val false (.int .i64 x1))), .sv (.one (.val false (.bool (decide (x1 < (-2097152 : Int)))))), .sv (.one (.val false (.bool (decide (x1 < (-2097152 : Int)))))), .sv (.one (.val true (.bool false))), .sv (.one (.val false (.int .i64 x1))), .sv (.one (.val false (.bool (decide (x1 > (2097152 : Int)))))), .sv (.one (.val true (.bool false))), .dead, .sv (.one (.ptr 1 1)), .sv (.one (.ext 0)), .sv (.one (.ext 29)), .sv (.one (.ext 29)), .sv (.one (.val false (.int .i64 (↑([] ++ x0_1).length : Int)))), .sv (.one (.val false (.int .i64 v.1))), .dead, .dead, .dead, .dead, .dead, .dead, .dead, .dead, .dead, .dead, .dead, .dead, .dead, .dead, .dead, .dead, .dead, .dead], [(0, .grid ([Sh.int IntKind.i64, Sh.int IntKind.i64, Sh.int IntKind.i64, Sh.int IntKind.i64]) x0_1), (1, .cells [.val false (.int .i64 x0_0), .ext 0] 33), (2, .cells [.val true (.int .i64 0), .val true (Value.slice none 0 0)] 33), (29, .row ([[[Sh.int IntKind.i64], [Sh.int IntKind.i64], [Sh.int IntKind.i64]].reverse.flatten, [Sh.int IntKind.i64]].reverse.flatten) 128 v.2)], 30, []⟩
noncomputable def ola_L0_T (x0_0 : Int) (x0_1 : List (List Ct)) (x1 : Int) (v : Int × List (List Ct)) : Ex × St := ((.exit 0), ⟨[.sv (.agg [.val false (.int .i64 x0_0), .ext 0]), .sv (.one (.val false (.int .i64 x1))), .sv (.one (.ptr 1 0)), .dead, .sv (.one (.ptr 2 0)), .sv (.one (.val true (.int .i64 0))), .sv (.one (.ext 29)), .dead, .sv (.agg [.val false (.int .i64 x0_0), .ext 0]), .sv (.one (.val false (.bool (trt_v x0_0 x0_1)))), .sv (.one (.val false (.bool (!trt_v x0_0 x0_1)))), .sv (.one (.val true (.bool false))), .sv (.one (.val false (.int .i64 x1))), .sv (.one (.val false (.bool (decide (x1 < (-2097152 : Int)))))), .sv (.one (.val false (.bool (decide (x1 < (-2097152 : Int)))))), .sv (.one (.val true (.bool false))), .sv (.one (.val false (.int .i64 x1))), .sv (.one (.val false (.bool (decide (x1 > (2097152 : Int)))))), .sv (.one (.val true (.bool false))), .dead, .sv (.one (.ptr 1 1)), .sv (.one (.ext 0)), .sv (.one (.ext 29)), .sv (.one (.ext 29)), .sv (.one (.val false (.int .i64 (↑([] ++ x0_1).length : Int)))), .sv (.one (.val false (.int .i64 v.1))), .dead, .dead, .dead, .dead, .dead, .dead, .dead, .dead, .dead, .dead, .dead, .dead, .dead, .dead, .dead, .dead, .dead, .dead], [(0, .grid ([Sh.int IntKind.i64, Sh.int IntKind.i64, Sh.int IntKind.i64, Sh.int IntKind.i64]) x0_1), (1, .cells [.val false (.int .i64 x0_0), .ext 0] 33), (2, .cells [.val true (.int .i64 0), .val true (Value.slice none 0 0)] 33), (29, .row ([[[Sh.int IntKind.i64], [Sh.int IntKind.i64], [Sh.int IntKind.i64]].reverse.flatten, [Sh.int IntKind.i64]].reverse.flatten) 128 v.2)], 31, []⟩)
noncomputable def ola_L0_rd (ex : Ex) (s : St) : Option ((Int × List (List Ct)) ⊕ (Int × List (List Ct))) × List (Nat × Option Nat) := match ex with
  | .normal => (some (.inl (rI (frC s 25 0), rL s (frC s 6 0))), [(1, some 1), (2, some 2), (29, some 29)])
  | .exit i => bif Nat.beq i 0 then (some (.inr (rI (frC s 25 0), rL s (frC s 6 0))), [(1, some 1), (2, some 2), (29, some 29)]) else (none, [])
  | _ => (none, [])
noncomputable def ola_L0_step (x0_1 : List (List Ct)) (x1 : Int) : (Int × List (List Ct)) → Option ((Int × List (List Ct)) ⊕ (Int × List (List Ct))) := fun v => match v with
  | (vi0, vl0) => bif (decide (vi0 < (↑([] ++ x0_1).length : Int))) then (bif (decide ((0 : Int) ≤ vi0 ∧ vi0 < (↑vl0.length : Int))) then bif (decide ((0 : Int) ≤ vi0 ∧ vi0 < (↑vl0.length : Int))) then some (.inl (IntKind.i64.wrap (vi0 + (1 : Int)), vl0.set vi0.toNat (updRow 4 0 [Ct.i (IntKind.i64.wrap ((rd vl0 vi0.toNat 0).int + x1))] (vl0.getD vi0.toNat [])))) else none else none) else some (.inr (vi0, vl0))
noncomputable def ola_L0_c : Code := loopC Try.prog 26 0
set_option maxRecDepth 100000 in
theorem ola_L0_ok (x0_0 : Int) (x0_1 : List (List Ct)) (x1 : Int) : ∀ v, StepOk Try.prog 1 ola_L0_c (ola_L0_S x0_0 x0_1 x1) (ola_L0_T x0_0 x0_1 x1) v (ola_L0_step x0_1 x1 v) := fun v => match v with | (vi0, vl0) => eng_step (C := (⟨consOrbit9, fun _ _ _ => none, fun f => false, noFacts, fun _ => 0⟩ : Cfg Try.prog)) noFacts_ok (n := 30) (f := 26) ola_L0_rd (fun _ => rfl) (by kernel_rfl)
noncomputable def ola_L0_p (x0_1 : List (List Ct)) (x1 : Int) : Bool := (iter (ola_L0_step x0_1 x1) (x0_1.length + 1) (0, ([] ++ x0_1))).isSome
noncomputable def ola_L0_v (x0_1 : List (List Ct)) (x1 : Int) : Int × List (List Ct) := loopRes (ola_L0_step x0_1 x1) (x0_1.length + 1) (0, ([] ++ x0_1))
noncomputable def ola_L0_lc (x0_0 : Int) (x0_1 : List (List Ct)) (x1 : Int) : LoopCon Try.prog := loopCon Try.prog 1 ola_L0_c [(1, some 1), (2, some 2), (29, some 29)] (ola_L0_S x0_0 x0_1 x1) (ola_L0_T x0_0 x0_1 x1) 0 (ola_L0_step x0_1 x1) (ola_L0_ok x0_0 x0_1 x1) (x0_1.length + 1) (0, ([] ++ x0_1)) (ola_L0_p x0_1 x1) rfl (ola_L0_v x0_1 x1) rfl
noncomputable def ola_O (v : Int × Int × List (List Ct)) : Out := ⟨.tup [.agg [.val false (.int .i64 v.1), .ext 38], .one (.val false (.int .i64 v.2.1))], [(38, .grid ([[[Sh.int IntKind.i64], [Sh.int IntKind.i64], [Sh.int IntKind.i64]].reverse.flatten, [Sh.int IntKind.i64]].reverse.flatten) v.2.2)], 63, []⟩
noncomputable def ola_rd (out : Out) : Option (Int × Int × List (List Ct)) := some (rI (rvC out.v 0 0), rI (rvC out.v 1 0), hpL' out.up 38)
noncomputable def ola_res (x0_0 : Int) (x0_1 : List (List Ct)) (x1 : Int) : Option (Int × Int × List (List Ct)) := bif ((trt_res x0_0 x0_1).isSome) then bif (!trt_v x0_0 x0_1) then (some (0, 1, [])) else bif (decide (x1 < (-2097152 : Int))) then (some (0, 1, [])) else bif (decide (x1 > (2097152 : Int))) then (some (0, 1, [])) else bif (decide (0 < x0_1.length)) then bif (decide (0 + x0_1.length ≤ 9223372036854775807 ∧ (0 + x0_1.length) * 32 ≤ 140737488355328)) then bif (ola_L0_p x0_1 x1) then bif ((tmk_res x0_0 (ola_L0_v x0_1 x1).snd).isSome) then some ((tmk_v x0_0 (ola_L0_v x0_1 x1).snd).fst, (tmk_v x0_0 (ola_L0_v x0_1 x1).snd).snd.fst, (tmk_v x0_0 (ola_L0_v x0_1 x1).snd).snd.snd) else none else none else none else none else none
set_option maxRecDepth 100000 in
theorem ola_tree {x0_0 : Int} {x0_1 : List (List Ct)} {x1 : Int} {v : Int × Int × List (List Ct)} (h : ola_res x0_0 x0_1 x1 = some v) : CallOk Try.prog 26 [.sv (.agg [.val false (.int .i64 x0_0), .ext 0]), .sv (.one (.val false (.int .i64 x1)))] [(0, .grid [.int .i64, .int .i64, .int .i64, .int .i64] x0_1)] 1 (ola_O v) :=
  eng_treeN (C := (⟨consOrbit9, fun f id nx => bif Nat.beq f 26 then (bif Nat.beq id 0 then some (ola_L0_lc x0_0 x0_1 x1) else none) else none, fun f => false, noFacts, fun _ => 0⟩ : Cfg Try.prog)) noFacts_ok (n := 30) (f := 26) ola_O ola_rd rfl (by kernel_rfl) h
noncomputable def ola_v (x0_0 : Int) (x0_1 : List (List Ct)) (x1 : Int) : Int × Int × List (List Ct) := (ola_res x0_0 x0_1 x1).getD default
theorem ola_spec (x0_0 : Int) (x0_1 : List (List Ct)) (x1 : Int) (h : ((ola_res x0_0 x0_1 x1).isSome) = true) : ola_res x0_0 x0_1 x1 = some (ola_v x0_0 x0_1 x1) := opt_get h
noncomputable def ola_m (args : List RV) (hp : Hp) : Option ((Int × List (List Ct) × Int) × List Nat) := match args with
  | [.sv (.agg [.val _ (.int .i64 x0_0), .ext i0]), .sv (.one (.val _ (.int .i64 x1)))] => (match gridAt hp i0 [.int .i64, .int .i64, .int .i64, .int .i64] with
    | some x0_1 => some ((x0_0, x0_1, x1), [i0])
    | _ => none)
  | _ => none
noncomputable def ola_con : Con Try.prog := conX Try.prog 26 ola_m 1 (fun x => [.sv (.agg [.val false (.int .i64 x.1), .ext 0]), .sv (.one (.val false (.int .i64 x.2.2)))]) (fun x => [(0, .grid [.int .i64, .int .i64, .int .i64, .int .i64] x.2.1)]) (fun x => some ((ola_res x.1 x.2.1 x.2.2).isSome)) (fun x => ola_O (ola_v x.1 x.2.1 x.2.2))
  (by
    intro args hp x r h
    unfold ola_m at h
    split at h
    · split at h
      · rename_i g0
        cases h
        refine ⟨rfl, fun nx => ⟨rfl, ?_, ?_⟩⟩
        · intro i hi
          simp only [List.mem_cons, List.not_mem_nil, or_false] at hi
          rcases hi with rfl
          · exact ⟨_, List.mem_of_getElem? (i := 0) rfl, .inl (by simp [RV.ids, SV.ids, CV.ids])⟩
        · intro id o0 ho
          have := hlook_mem ho
          simp only [List.mem_cons, Prod.mk.injEq, List.not_mem_nil, or_false] at this
          rcases this with ⟨rfl, rfl⟩
          · exact ⟨_, gridAt_spec g0, rfl⟩
      · cases h
    · cases h)
  (fun x h => ⟨rfl, rfl, ola_tree (ola_spec x.1 x.2.1 x.2.2 (h _ rfl))⟩)

noncomputable def osk_L0_S (x0_0 : Int) (x0_1 : List (List Ct)) (x1 : Int) (x2 : Int) (v : Int × List (List Ct)) : St := ⟨[.sv (.agg [.val false (.int .i64 x0_0), .ext 0]), .sv (.one (.val false (.int .u64 x1))), .sv (.one (.val false (.int .i64 x2))), .sv (.one (.ptr 1 0)), .dead, .sv (.one (.ptr 2 0)), .sv (.one (.ptr 3 0)), .sv (.one (.val true (.int .i64 0))), .sv (.one (.ext 28)), .dead, .dead, .dead, .sv (.agg [.val false (.int .i64 x0_0), .ext 0]), .sv (.one (.val false (.bool (trt_v x0_0 x0_1)))), .sv (.one (.val true (.bool false))), .dead, .sv (.one (.ptr 1 1)), .sv (.one (.ext 0)), .sv (.one (.ext 28)), .sv (.one (.ext 28)), .sv (.one (.val false (.int .i64 (↑([] ++ x0_1).length : Int)))), .sv (.one (.val false (.int .i64 v.1))), .dead, .dead, .dead, .dead, .dead, .dead, .dead, .dead, .dead, .dead, .dead, .dead, .dead, .dead, .dead, .dead, .dead, .dead, .dead, .dead, .dead, .dead, .dead, .dead, .dead, .dead, .dead, .dead, .dead, .dead], [(0, .grid ([Sh.int IntKind.i64, Sh.int IntKind.i64, Sh.int IntKind.i64, Sh.int IntKind.i64]) x0_1), (1, .cells [.val false (.int .i64 x0_0), .ext 0] 33), (2, .cells [.val false (.int .i64 x2)] 27), (3, .cells [.val true (.int .i64 0), .val true (Value.slice none 0 0)] 33), (28, .row ([[[Sh.int IntKind.i64], [Sh.int IntKind.i64], [Sh.int IntKind.i64]].reverse.flatten, [Sh.int IntKind.i64]].reverse.flatten) 128 v.2)], 29, []⟩
noncomputable def osk_L0_T (x0_0 : Int) (x0_1 : List (List Ct)) (x1 : Int) (x2 : Int) (v : Int × List (List Ct)) : Ex × St := ((.exit 0), ⟨[.sv (.agg [.val false (.int .i64 x0_0), .ext 0]), .sv (.one (.val false (.int .u64 x1))), .sv (.one (.val false (.int .i64 x2))), .sv (.one (.ptr 1 0)), .dead, .sv (.one (.ptr 2 0)), .sv (.one (.ptr 3 0)), .sv (.one (.val true (.int .i64 0))), .sv (.one (.ext 28)), .dead, .dead, .dead, .sv (.agg [.val false (.int .i64 x0_0), .ext 0]), .sv (.one (.val false (.bool (trt_v x0_0 x0_1)))), .sv (.one (.val true (.bool false))), .dead, .sv (.one (.ptr 1 1)), .sv (.one (.ext 0)), .sv (.one (.ext 28)), .sv (.one (.ext 28)), .sv (.one (.val false (.int .i64 (↑([] ++ x0_1).length : Int)))), .sv (.one (.val false (.int .i64 v.1))), .dead, .dead, .dead, .dead, .dead, .dead, .dead, .dead, .dead, .dead, .dead, .dead, .dead, .dead, .dead, .dead, .dead, .dead, .dead, .dead, .dead, .dead, .dead, .dead, .dead, .dead, .dead, .dead, .dead, .dead], [(0, .grid ([Sh.int IntKind.i64, Sh.int IntKind.i64, Sh.int IntKind.i64, Sh.int IntKind.i64]) x0_1), (1, .cells [.val false (.int .i64 x0_0), .ext 0] 33), (2, .cells [.val false (.int .i64 x2)] 27), (3, .cells [.val true (.int .i64 0), .val true (Value.slice none 0 0)] 33), (28, .row ([[[Sh.int IntKind.i64], [Sh.int IntKind.i64], [Sh.int IntKind.i64]].reverse.flatten, [Sh.int IntKind.i64]].reverse.flatten) 128 v.2)], 30, []⟩)
noncomputable def osk_L0_rd (ex : Ex) (s : St) : Option ((Int × List (List Ct)) ⊕ (Int × List (List Ct))) × List (Nat × Option Nat) := match ex with
  | .normal => (some (.inl (rI (frC s 21 0), rL s (frC s 8 0))), [(1, some 1), (2, some 2), (3, some 3), (28, some 28)])
  | .exit i => bif Nat.beq i 0 then (some (.inr (rI (frC s 21 0), rL s (frC s 8 0))), [(1, some 1), (2, some 2), (3, some 3), (28, some 28)]) else (none, [])
  | _ => (none, [])
noncomputable def osk_L0_step (x0_1 : List (List Ct)) (x1 : Int) (x2 : Int) : (Int × List (List Ct)) → Option ((Int × List (List Ct)) ⊕ (Int × List (List Ct))) := fun v => match v with
  | (vi0, vl0) => bif (decide (vi0 < (↑([] ++ x0_1).length : Int))) then (bif (decide ((0 : Int) ≤ vi0 ∧ vi0 < (↑vl0.length : Int))) then bif ((Lit.int IntKind.u64 x1).wf) then bif ((Lit.int IntKind.u64 x1).wf) then bif ((Lit.int IntKind.u64 x1).wf) then bif (decide ((0 : Int) ≤ vi0 ∧ vi0 < (↑vl0.length : Int))) then some (.inl (IntKind.i64.wrap (vi0 + (1 : Int)), vl0.set vi0.toNat (updRow 4 1 [Ct.i (addS (rd vl0 vi0.toNat 1).int (mulS x2 (subS (IntKind.i64.wrap ((2 : Int) * unitS x1 vi0 (0 : Int) (0 : Int) (0 : Int))) (65536 : Int)))), Ct.i (addS (rd vl0 vi0.toNat 2).int (mulS x2 (subS (IntKind.i64.wrap ((2 : Int) * unitS x1 vi0 (0 : Int) (0 : Int) (1 : Int))) (65536 : Int)))), Ct.i (addS (rd vl0 vi0.toNat 3).int (mulS x2 (subS (IntKind.i64.wrap ((2 : Int) * unitS x1 vi0 (0 : Int) (0 : Int) (2 : Int))) (65536 : Int))))] (vl0.getD vi0.toNat [])))) else none else none else none else none else none) else some (.inr (vi0, vl0))
noncomputable def osk_L0_c : Code := loopC Try.prog 27 0
set_option maxRecDepth 100000 in
theorem osk_L0_ok (x0_0 : Int) (x0_1 : List (List Ct)) (x1 : Int) (x2 : Int) : ∀ v, StepOk Try.prog 1 osk_L0_c (osk_L0_S x0_0 x0_1 x1 x2) (osk_L0_T x0_0 x0_1 x1 x2) v (osk_L0_step x0_1 x1 x2 v) := fun v => match v with | (vi0, vl0) => eng_step (C := (⟨consOrbit9, fun _ _ _ => none, fun f => false, noFacts, fun _ => 0⟩ : Cfg Try.prog)) noFacts_ok (n := 30) (f := 27) osk_L0_rd (fun _ => rfl) (by kernel_rfl)
noncomputable def osk_L0_p (x0_1 : List (List Ct)) (x1 : Int) (x2 : Int) : Bool := (iter (osk_L0_step x0_1 x1 x2) (x0_1.length + 1) (0, ([] ++ x0_1))).isSome
noncomputable def osk_L0_v (x0_1 : List (List Ct)) (x1 : Int) (x2 : Int) : Int × List (List Ct) := loopRes (osk_L0_step x0_1 x1 x2) (x0_1.length + 1) (0, ([] ++ x0_1))
noncomputable def osk_L0_lc (x0_0 : Int) (x0_1 : List (List Ct)) (x1 : Int) (x2 : Int) : LoopCon Try.prog := loopCon Try.prog 1 osk_L0_c [(1, some 1), (2, some 2), (3, some 3), (28, some 28)] (osk_L0_S x0_0 x0_1 x1 x2) (osk_L0_T x0_0 x0_1 x1 x2) 0 (osk_L0_step x0_1 x1 x2) (osk_L0_ok x0_0 x0_1 x1 x2) (x0_1.length + 1) (0, ([] ++ x0_1)) (osk_L0_p x0_1 x1 x2) rfl (osk_L0_v x0_1 x1 x2) rfl
noncomputable def osk_O (v : Int × Int × List (List Ct)) : Out := ⟨.tup [.agg [.val false (.int .i64 v.1), .ext 37], .one (.val false (.int .i64 v.2.1))], [(37, .grid ([[[Sh.int IntKind.i64], [Sh.int IntKind.i64], [Sh.int IntKind.i64]].reverse.flatten, [Sh.int IntKind.i64]].reverse.flatten) v.2.2)], 62, []⟩
noncomputable def osk_rd (out : Out) : Option (Int × Int × List (List Ct)) := some (rI (rvC out.v 0 0), rI (rvC out.v 1 0), hpL' out.up 37)
noncomputable def osk_res (x0_0 : Int) (x0_1 : List (List Ct)) (x1 : Int) (x2 : Int) : Option (Int × Int × List (List Ct)) := bif ((trt_res x0_0 x0_1).isSome) then bif (!trt_v x0_0 x0_1) then (some (0, 1, [])) else bif (decide (0 < x0_1.length)) then bif (decide (0 + x0_1.length ≤ 9223372036854775807 ∧ (0 + x0_1.length) * 32 ≤ 140737488355328)) then bif (osk_L0_p x0_1 x1 x2) then bif ((tmk_res x0_0 (osk_L0_v x0_1 x1 x2).snd).isSome) then some ((tmk_v x0_0 (osk_L0_v x0_1 x1 x2).snd).fst, (tmk_v x0_0 (osk_L0_v x0_1 x1 x2).snd).snd.fst, (tmk_v x0_0 (osk_L0_v x0_1 x1 x2).snd).snd.snd) else none else none else none else none else none
set_option maxRecDepth 100000 in
theorem osk_tree {x0_0 : Int} {x0_1 : List (List Ct)} {x1 : Int} {x2 : Int} {v : Int × Int × List (List Ct)} (h : osk_res x0_0 x0_1 x1 x2 = some v) : CallOk Try.prog 27 [.sv (.agg [.val false (.int .i64 x0_0), .ext 0]), .sv (.one (.val false (.int .u64 x1))), .sv (.one (.val false (.int .i64 x2)))] [(0, .grid [.int .i64, .int .i64, .int .i64, .int .i64] x0_1)] 1 (osk_O v) :=
  eng_treeN (C := (⟨consOrbit9, fun f id nx => bif Nat.beq f 27 then (bif Nat.beq id 0 then some (osk_L0_lc x0_0 x0_1 x1 x2) else none) else none, fun f => false, noFacts, fun _ => 0⟩ : Cfg Try.prog)) noFacts_ok (n := 30) (f := 27) osk_O osk_rd rfl (by kernel_rfl) h
noncomputable def osk_v (x0_0 : Int) (x0_1 : List (List Ct)) (x1 : Int) (x2 : Int) : Int × Int × List (List Ct) := (osk_res x0_0 x0_1 x1 x2).getD default
theorem osk_spec (x0_0 : Int) (x0_1 : List (List Ct)) (x1 : Int) (x2 : Int) (h : ((osk_res x0_0 x0_1 x1 x2).isSome) = true) : osk_res x0_0 x0_1 x1 x2 = some (osk_v x0_0 x0_1 x1 x2) := opt_get h
noncomputable def osk_m (args : List RV) (hp : Hp) : Option ((Int × List (List Ct) × Int × Int) × List Nat) := match args with
  | [.sv (.agg [.val _ (.int .i64 x0_0), .ext i0]), .sv (.one (.val _ (.int .u64 x1))), .sv (.one (.val _ (.int .i64 x2)))] => (match gridAt hp i0 [.int .i64, .int .i64, .int .i64, .int .i64] with
    | some x0_1 => some ((x0_0, x0_1, x1, x2), [i0])
    | _ => none)
  | _ => none
noncomputable def osk_con : Con Try.prog := conX Try.prog 27 osk_m 1 (fun x => [.sv (.agg [.val false (.int .i64 x.1), .ext 0]), .sv (.one (.val false (.int .u64 x.2.2.1))), .sv (.one (.val false (.int .i64 x.2.2.2)))]) (fun x => [(0, .grid [.int .i64, .int .i64, .int .i64, .int .i64] x.2.1)]) (fun x => some ((osk_res x.1 x.2.1 x.2.2.1 x.2.2.2).isSome)) (fun x => osk_O (osk_v x.1 x.2.1 x.2.2.1 x.2.2.2))
  (by
    intro args hp x r h
    unfold osk_m at h
    split at h
    · split at h
      · rename_i g0
        cases h
        refine ⟨rfl, fun nx => ⟨rfl, ?_, ?_⟩⟩
        · intro i hi
          simp only [List.mem_cons, List.not_mem_nil, or_false] at hi
          rcases hi with rfl
          · exact ⟨_, List.mem_of_getElem? (i := 0) rfl, .inl (by simp [RV.ids, SV.ids, CV.ids])⟩
        · intro id o0 ho
          have := hlook_mem ho
          simp only [List.mem_cons, Prod.mk.injEq, List.not_mem_nil, or_false] at this
          rcases this with ⟨rfl, rfl⟩
          · exact ⟨_, gridAt_spec g0, rfl⟩
      · cases h
    · cases h)
  (fun x h => ⟨rfl, rfl, osk_tree (osk_spec x.1 x.2.1 x.2.2.1 x.2.2.2 (h _ rfl))⟩)

noncomputable def rla_L0_S (x0_0 : Int) (x0_1 : List (List Ct)) (x1 : Int) (v : Int × List (List Ct)) : St := ⟨[.sv (.agg [.val false (.int .i64 x0_0), .ext 0]), .sv (.one (.val false (.int .i64 x1))), .sv (.one (.ptr 1 0)), .dead, .sv (.one (.ptr 2 0)), .sv (.one (.val true (.int .i64 0))), .sv (.one (.ext 22)), .sv (.one (.val false (.int .i64 v.1))), .sv (.agg [.val false (.int .i64 x0_0), .ext 0]), .sv (.one (.val false (.bool (rrt_v x0_0 x0_1)))), .sv (.one (.val false (.bool (!rrt_v x0_0 x0_1)))), .sv (.one (.val true (.bool false))), .sv (.one (.val false (.int .i64 x1))), .sv (.one (.val false (.bool (decide (x1 < (-2097152 : Int)))))), .sv (.one (.val false (.bool (decide (x1 < (-2097152 : Int)))))), .sv (.one (.val true (.bool false))), .sv (.one (.val false (.int .i64 x1))), .sv (.one (.val false (.bool (decide (x1 > (2097152 : Int)))))), .sv (.one (.val true (.bool false))), .dead, .dead, .dead, .dead, .dead, .dead, .dead, .dead, .dead, .dead, .dead, .dead, .dead, .dead, .dead, .dead, .dead, .dead, .dead, .dead, .dead, .dead, .dead, .dead, .dead, .dead, .dead, .dead, .dead, .dead, .dead, .dead], [(0, .grid ([Sh.int IntKind.i64, Sh.int IntKind.i64, Sh.int IntKind.i64, Sh.int IntKind.i64]) x0_1), (1, .cells [.val false (.int .i64 x0_0), .ext 0] 39), (2, .cells [.val true (.int .i64 0), .val true (Value.slice none 0 0)] 39), (22, .row ([(fun s => (List.replicate 3 s).flatten) [Sh.int IntKind.i64], [Sh.int IntKind.i64]].reverse.flatten) 115 v.2)], 23, []⟩
noncomputable def rla_L0_T (x0_0 : Int) (x0_1 : List (List Ct)) (x1 : Int) (v : Int × List (List Ct)) : Ex × St := ((.exit 0), ⟨[.sv (.agg [.val false (.int .i64 x0_0), .ext 0]), .sv (.one (.val false (.int .i64 x1))), .sv (.one (.ptr 1 0)), .dead, .sv (.one (.ptr 2 0)), .sv (.one (.val true (.int .i64 0))), .sv (.one (.ext 22)), .sv (.one (.val false (.int .i64 v.1))), .sv (.agg [.val false (.int .i64 x0_0), .ext 0]), .sv (.one (.val false (.bool (rrt_v x0_0 x0_1)))), .sv (.one (.val false (.bool (!rrt_v x0_0 x0_1)))), .sv (.one (.val true (.bool false))), .sv (.one (.val false (.int .i64 x1))), .sv (.one (.val false (.bool (decide (x1 < (-2097152 : Int)))))), .sv (.one (.val false (.bool (decide (x1 < (-2097152 : Int)))))), .sv (.one (.val true (.bool false))), .sv (.one (.val false (.int .i64 x1))), .sv (.one (.val false (.bool (decide (x1 > (2097152 : Int)))))), .sv (.one (.val true (.bool false))), .dead, .dead, .dead, .dead, .dead, .dead, .dead, .dead, .dead, .dead, .dead, .dead, .dead, .dead, .dead, .dead, .dead, .dead, .dead, .dead, .dead, .dead, .dead, .dead, .dead, .dead, .dead, .dead, .dead, .dead, .dead, .dead], [(0, .grid ([Sh.int IntKind.i64, Sh.int IntKind.i64, Sh.int IntKind.i64, Sh.int IntKind.i64]) x0_1), (1, .cells [.val false (.int .i64 x0_0), .ext 0] 39), (2, .cells [.val true (.int .i64 0), .val true (Value.slice none 0 0)] 39), (22, .grid ([(fun s => (List.replicate 3 s).flatten) [Sh.int IntKind.i64], [Sh.int IntKind.i64]].reverse.flatten) v.2)], 24, []⟩)
noncomputable def rla_L0_rd (ex : Ex) (s : St) : Option ((Int × List (List Ct)) ⊕ (Int × List (List Ct))) × List (Nat × Option Nat) := match ex with
  | .normal => (some (.inl (rI (frC s 7 0), rL s (frC s 6 0))), [(1, some 1), (2, some 2), rnOf 22 (frC s 6 0)])
  | .exit i => bif Nat.beq i 0 then (some (.inr (rI (frC s 7 0), rL s (frC s 6 0))), [(1, some 1), (2, some 2), (22, some 22)]) else (none, [])
  | _ => (none, [])
noncomputable def rla_L0_step (x0_1 : List (List Ct)) (x1 : Int) : (Int × List (List Ct)) → Option ((Int × List (List Ct)) ⊕ (Int × List (List Ct))) := fun v => match v with
  | (vi0, vl0) => bif (decide (vi0 < (↑x0_1.length : Int))) then (bif (decide ((0 : Int) ≤ vi0 ∧ vi0 < (↑x0_1.length : Int))) then bif (decide ((0 : Int) ≤ vi0 ∧ vi0 < (↑x0_1.length : Int))) then bif (decide (vl0.length + [[Ct.i (IntKind.i64.wrap ((rd x0_1 vi0.toNat 0).int + x1)), Ct.i (rd x0_1 vi0.toNat 1).int, Ct.i (rd x0_1 vi0.toNat 2).int, Ct.i (rd x0_1 vi0.toNat 3).int]].length ≤ 9223372036854775807 ∧ (vl0.length + [[Ct.i (IntKind.i64.wrap ((rd x0_1 vi0.toNat 0).int + x1)), Ct.i (rd x0_1 vi0.toNat 1).int, Ct.i (rd x0_1 vi0.toNat 2).int, Ct.i (rd x0_1 vi0.toNat 3).int]].length) * 32 ≤ 140737488355328)) then some (.inl (IntKind.i64.wrap (vi0 + (1 : Int)), vl0 ++ [[Ct.i (IntKind.i64.wrap ((rd x0_1 vi0.toNat 0).int + x1)), Ct.i (rd x0_1 vi0.toNat 1).int, Ct.i (rd x0_1 vi0.toNat 2).int, Ct.i (rd x0_1 vi0.toNat 3).int]])) else none else none else none) else some (.inr (vi0, vl0))
noncomputable def rla_L0_c : Code := loopC Try.prog 28 0
set_option maxRecDepth 100000 in
theorem rla_L0_ok (x0_0 : Int) (x0_1 : List (List Ct)) (x1 : Int) : ∀ v, StepOk Try.prog 1 rla_L0_c (rla_L0_S x0_0 x0_1 x1) (rla_L0_T x0_0 x0_1 x1) v (rla_L0_step x0_1 x1 v) := fun v => match v with | (vi0, vl0) => eng_step (C := (⟨consOrbit9, fun _ _ _ => none, fun f => false, noFacts, fun _ => 0⟩ : Cfg Try.prog)) noFacts_ok (n := 30) (f := 28) rla_L0_rd (fun _ => rfl) (by kernel_rfl)
noncomputable def rla_L0_p (x0_1 : List (List Ct)) (x1 : Int) : Bool := (iter (rla_L0_step x0_1 x1) (x0_1.length + 1) (0, [])).isSome
noncomputable def rla_L0_v (x0_1 : List (List Ct)) (x1 : Int) : Int × List (List Ct) := loopRes (rla_L0_step x0_1 x1) (x0_1.length + 1) (0, [])
noncomputable def rla_L0_lc (x0_0 : Int) (x0_1 : List (List Ct)) (x1 : Int) : LoopCon Try.prog := loopCon Try.prog 1 rla_L0_c [(1, some 1), (2, some 2), (22, none)] (rla_L0_S x0_0 x0_1 x1) (rla_L0_T x0_0 x0_1 x1) 0 (rla_L0_step x0_1 x1) (rla_L0_ok x0_0 x0_1 x1) (x0_1.length + 1) (0, []) (rla_L0_p x0_1 x1) rfl (rla_L0_v x0_1 x1) rfl
noncomputable def rla_O (v : Int × Int × List (List Ct)) : Out := ⟨.tup [.agg [.val false (.int .i64 v.1), .ext 25], .one (.val false (.int .i64 v.2.1))], [(25, .grid ([(fun s => (List.replicate 3 s).flatten) [Sh.int IntKind.i64], [Sh.int IntKind.i64]].reverse.flatten) v.2.2)], 45, []⟩
noncomputable def rla_rd (out : Out) : Option (Int × Int × List (List Ct)) := some (rI (rvC out.v 0 0), rI (rvC out.v 1 0), hpL' out.up 25)
noncomputable def rla_res (x0_0 : Int) (x0_1 : List (List Ct)) (x1 : Int) : Option (Int × Int × List (List Ct)) := bif ((rrt_res x0_0 x0_1).isSome) then bif (!rrt_v x0_0 x0_1) then (some (0, 1, [])) else bif (decide (x1 < (-2097152 : Int))) then (some (0, 1, [])) else bif (decide (x1 > (2097152 : Int))) then (some (0, 1, [])) else bif (rla_L0_p x0_1 x1) then bif ((rmk_res x0_0 (rla_L0_v x0_1 x1).snd).isSome) then some ((rmk_v x0_0 (rla_L0_v x0_1 x1).snd).fst, (rmk_v x0_0 (rla_L0_v x0_1 x1).snd).snd.fst, (rmk_v x0_0 (rla_L0_v x0_1 x1).snd).snd.snd) else none else none else none
set_option maxRecDepth 100000 in
theorem rla_tree {x0_0 : Int} {x0_1 : List (List Ct)} {x1 : Int} {v : Int × Int × List (List Ct)} (h : rla_res x0_0 x0_1 x1 = some v) : CallOk Try.prog 28 [.sv (.agg [.val false (.int .i64 x0_0), .ext 0]), .sv (.one (.val false (.int .i64 x1)))] [(0, .grid [.int .i64, .int .i64, .int .i64, .int .i64] x0_1)] 1 (rla_O v) :=
  eng_treeN (C := (⟨consOrbit9, fun f id nx => bif Nat.beq f 28 then (bif Nat.beq id 0 then some (rla_L0_lc x0_0 x0_1 x1) else none) else none, fun f => false, noFacts, fun _ => 0⟩ : Cfg Try.prog)) noFacts_ok (n := 30) (f := 28) rla_O rla_rd rfl (by kernel_rfl) h
noncomputable def rla_v (x0_0 : Int) (x0_1 : List (List Ct)) (x1 : Int) : Int × Int × List (List Ct) := (rla_res x0_0 x0_1 x1).getD default
theorem rla_spec (x0_0 : Int) (x0_1 : List (List Ct)) (x1 : Int) (h : ((rla_res x0_0 x0_1 x1).isSome) = true) : rla_res x0_0 x0_1 x1 = some (rla_v x0_0 x0_1 x1) := opt_get h
noncomputable def rla_m (args : List RV) (hp : Hp) : Option ((Int × List (List Ct) × Int) × List Nat) := match args with
  | [.sv (.agg [.val _ (.int .i64 x0_0), .ext i0]), .sv (.one (.val _ (.int .i64 x1)))] => (match gridAt hp i0 [.int .i64, .int .i64, .int .i64, .int .i64] with
    | some x0_1 => some ((x0_0, x0_1, x1), [i0])
    | _ => none)
  | _ => none
noncomputable def rla_con : Con Try.prog := conX Try.prog 28 rla_m 1 (fun x => [.sv (.agg [.val false (.int .i64 x.1), .ext 0]), .sv (.one (.val false (.int .i64 x.2.2)))]) (fun x => [(0, .grid [.int .i64, .int .i64, .int .i64, .int .i64] x.2.1)]) (fun x => some ((rla_res x.1 x.2.1 x.2.2).isSome)) (fun x => rla_O (rla_v x.1 x.2.1 x.2.2))
  (by
    intro args hp x r h
    unfold rla_m at h
    split at h
    · split at h
      · rename_i g0
        cases h
        refine ⟨rfl, fun nx => ⟨rfl, ?_, ?_⟩⟩
        · intro i hi
          simp only [List.mem_cons, List.not_mem_nil, or_false] at hi
          rcases hi with rfl
          · exact ⟨_, List.mem_of_getElem? (i := 0) rfl, .inl (by simp [RV.ids, SV.ids, CV.ids])⟩
        · intro id o0 ho
          have := hlook_mem ho
          simp only [List.mem_cons, Prod.mk.injEq, List.not_mem_nil, or_false] at this
          rcases this with ⟨rfl, rfl⟩
          · exact ⟨_, gridAt_spec g0, rfl⟩
      · cases h
    · cases h)
  (fun x h => ⟨rfl, rfl, rla_tree (rla_spec x.1 x.2.1 x.2.2 (h _ rfl))⟩)

noncomputable def rba_L0_S (x0_0 : Int) (x0_1 : List (List Ct)) (v : Int × List (List Ct)) : St := ⟨[.sv (.agg [.val false (.int .i64 x0_0), .ext 0]), .sv (.one (.ptr 1 0)), .sv (.one (.ptr 2 0)), .sv (.one (.val true (.int .i64 0))), .sv (.one (.ext 20)), .sv (.one (.val false (.int .i64 (IntKind.i64.wrap ((↑x0_1.length : Int) - (1 : Int)))))), .sv (.one (.val false (.int .i64 v.1))), .sv (.agg [.val false (.int .i64 x0_0), .ext 0]), .sv (.one (.val false (.bool (rrt_v x0_0 x0_1)))), .sv (.one (.val true (.bool false))), .dead, .sv (.one (.ptr 1 1)), .sv (.one (.ext 0)), .sv (.one (.val false (.int .i64 (↑x0_1.length : Int)))), .sv (.one (.val false (.int .i64 (IntKind.i64.wrap ((↑x0_1.length : Int) - (1 : Int)))))), .sv (.one (.val false (.int .i64 (IntKind.i64.wrap ((↑x0_1.length : Int) - (1 : Int)))))), .dead, .dead, .dead, .dead, .dead, .dead, .dead, .dead, .dead, .dead, .dead, .dead, .dead, .dead, .dead, .dead, .dead, .dead, .dead, .dead, .dead, .dead, .dead, .dead, .dead, .dead, .dead, .dead, .dead, .dead, .dead, .dead, .dead, .dead, .dead, .dead, .dead, .dead, .dead], [(0, .grid ([Sh.int IntKind.i64, Sh.int IntKind.i64, Sh.int IntKind.i64, Sh.int IntKind.i64]) x0_1), (1, .cells [.val false (.int .i64 x0_0), .ext 0] 39), (2, .cells [.val true (.int .i64 0), .val true (Value.slice none 0 0)] 39), (20, .row ([(fun s => (List.replicate 3 s).flatten) [Sh.int IntKind.i64], [Sh.int IntKind.i64]].reverse.flatten) 115 v.2)], 21, []⟩
noncomputable def rba_L0_T (x0_0 : Int) (x0_1 : List (List Ct)) (v : Int × List (List Ct)) : Ex × St := ((.exit 0), ⟨[.sv (.agg [.val false (.int .i64 x0_0), .ext 0]), .sv (.one (.ptr 1 0)), .sv (.one (.ptr 2 0)), .sv (.one (.val true (.int .i64 0))), .sv (.one (.ext 20)), .sv (.one (.val false (.int .i64 (IntKind.i64.wrap ((↑x0_1.length : Int) - (1 : Int)))))), .sv (.one (.val false (.int .i64 v.1))), .sv (.agg [.val false (.int .i64 x0_0), .ext 0]), .sv (.one (.val false (.bool (rrt_v x0_0 x0_1)))), .sv (.one (.val true (.bool false))), .dead, .sv (.one (.ptr 1 1)), .sv (.one (.ext 0)), .sv (.one (.val false (.int .i64 (↑x0_1.length : Int)))), .sv (.one (.val false (.int .i64 (IntKind.i64.wrap ((↑x0_1.length : Int) - (1 : Int)))))), .sv (.one (.val false (.int .i64 (IntKind.i64.wrap ((↑x0_1.length : Int) - (1 : Int)))))), .dead, .dead, .dead, .dead, .dead, .dead, .dead, .dead, .dead, .dead, .dead, .dead, .dead, .dead, .dead, .dead, .dead, .dead, .dead, .dead, .dead, .dead, .dead, .dead, .dead, .dead, .dead, .dead, .dead, .dead, .dead, .dead, .dead, .dead, .dead, .dead, .dead, .dead, .dead], [(0, .grid ([Sh.int IntKind.i64, Sh.int IntKind.i64, Sh.int IntKind.i64, Sh.int IntKind.i64]) x0_1), (1, .cells [.val false (.int .i64 x0_0), .ext 0] 39), (2, .cells [.val true (.int .i64 0), .val true (Value.slice none 0 0)] 39), (20, .grid ([(fun s => (List.replicate 3 s).flatten) [Sh.int IntKind.i64], [Sh.int IntKind.i64]].reverse.flatten) v.2)], 22, []⟩)
noncomputable def rba_L0_rd (ex : Ex) (s : St) : Option ((Int × List (List Ct)) ⊕ (Int × List (List Ct))) × List (Nat × Option Nat) := match ex with
  | .normal => (some (.inl (rI (frC s 6 0), rL s (frC s 4 0))), [(1, some 1), (2, some 2), rnOf 20 (frC s 4 0)])
  | .exit i => bif Nat.beq i 0 then (some (.inr (rI (frC s 6 0), rL s (frC s 4 0))), [(1, some 1), (2, some 2), (20, some 20)]) else (none, [])
  | _ => (none, [])
noncomputable def rba_L0_step (x0_1 : List (List Ct)) : (Int × List (List Ct)) → Option ((Int × List (List Ct)) ⊕ (Int × List (List Ct))) := fun v => match v with
  | (vi0, vl0) => bif (decide (vi0 ≥ (0 : Int))) then (bif (decide ((0 : Int) ≤ (0 : Int) ∧ (0 : Int) < (↑x0_1.length : Int))) then bif (decide ((0 : Int) ≤ IntKind.i64.wrap ((↑x0_1.length : Int) - (1 : Int)) ∧ IntKind.i64.wrap ((↑x0_1.length : Int) - (1 : Int)) < (↑x0_1.length : Int))) then bif (decide ((0 : Int) ≤ vi0 ∧ vi0 < (↑x0_1.length : Int))) then bif (decide ((0 : Int) ≤ vi0 ∧ vi0 < (↑x0_1.length : Int))) then bif (decide (vl0.length + [[Ct.i (IntKind.i64.wrap (IntKind.i64.wrap ((rd x0_1 (Int.toNat (0 : Int)) 0).int + (rd x0_1 (IntKind.i64.wrap ((↑x0_1.length : Int) - (1 : Int))).toNat 0).int) - (rd x0_1 vi0.toNat 0).int)), Ct.i (rd x0_1 vi0.toNat 1).int, Ct.i (rd x0_1 vi0.toNat 2).int, Ct.i (rd x0_1 vi0.toNat 3).int]].length ≤ 9223372036854775807 ∧ (vl0.length + [[Ct.i (IntKind.i64.wrap (IntKind.i64.wrap ((rd x0_1 (Int.toNat (0 : Int)) 0).int + (rd x0_1 (IntKind.i64.wrap ((↑x0_1.length : Int) - (1 : Int))).toNat 0).int) - (rd x0_1 vi0.toNat 0).int)), Ct.i (rd x0_1 vi0.toNat 1).int, Ct.i (rd x0_1 vi0.toNat 2).int, Ct.i (rd x0_1 vi0.toNat 3).int]].length) * 32 ≤ 140737488355328)) then some (.inl (IntKind.i64.wrap (vi0 - (1 : Int)), vl0 ++ [[Ct.i (IntKind.i64.wrap (IntKind.i64.wrap ((rd x0_1 (Int.toNat (0 : Int)) 0).int + (rd x0_1 (IntKind.i64.wrap ((↑x0_1.length : Int) - (1 : Int))).toNat 0).int) - (rd x0_1 vi0.toNat 0).int)), Ct.i (rd x0_1 vi0.toNat 1).int, Ct.i (rd x0_1 vi0.toNat 2).int, Ct.i (rd x0_1 vi0.toNat 3).int]])) else none else none else none else none else none) else some (.inr (vi0, vl0))
noncomputable def rba_L0_c : Code := loopC Try.prog 29 0
set_option maxRecDepth 100000 in
theorem rba_L0_ok (x0_0 : Int) (x0_1 : List (List Ct)) : ∀ v, StepOk Try.prog 1 rba_L0_c (rba_L0_S x0_0 x0_1) (rba_L0_T x0_0 x0_1) v (rba_L0_step x0_1 v) := fun v => match v with | (vi0, vl0) => eng_step (C := (⟨consOrbit9, fun _ _ _ => none, fun f => false, noFacts, fun _ => 0⟩ : Cfg Try.prog)) noFacts_ok (n := 30) (f := 29) rba_L0_rd (fun _ => rfl) (by kernel_rfl)
noncomputable def rba_L0_p (x0_1 : List (List Ct)) : Bool := (iter (rba_L0_step x0_1) (x0_1.length + 1) ((IntKind.i64.wrap ((↑x0_1.length : Int) - (1 : Int))), [])).isSome
noncomputable def rba_L0_v (x0_1 : List (List Ct)) : Int × List (List Ct) := loopRes (rba_L0_step x0_1) (x0_1.length + 1) ((IntKind.i64.wrap ((↑x0_1.length : Int) - (1 : Int))), [])
noncomputable def rba_L0_lc (x0_0 : Int) (x0_1 : List (List Ct)) : LoopCon Try.prog := loopCon Try.prog 1 rba_L0_c [(1, some 1), (2, some 2), (20, none)] (rba_L0_S x0_0 x0_1) (rba_L0_T x0_0 x0_1) 0 (rba_L0_step x0_1) (rba_L0_ok x0_0 x0_1) (x0_1.length + 1) ((IntKind.i64.wrap ((↑x0_1.length : Int) - (1 : Int))), []) (rba_L0_p x0_1) rfl (rba_L0_v x0_1) rfl
noncomputable def rba_O (v : Int × Int × List (List Ct)) : Out := ⟨.tup [.agg [.val false (.int .i64 v.1), .ext 23], .one (.val false (.int .i64 v.2.1))], [(23, .grid ([(fun s => (List.replicate 3 s).flatten) [Sh.int IntKind.i64], [Sh.int IntKind.i64]].reverse.flatten) v.2.2)], 43, []⟩
noncomputable def rba_rd (out : Out) : Option (Int × Int × List (List Ct)) := some (rI (rvC out.v 0 0), rI (rvC out.v 1 0), hpL' out.up 23)
noncomputable def rba_res (x0_0 : Int) (x0_1 : List (List Ct)) : Option (Int × Int × List (List Ct)) := bif ((rrt_res x0_0 x0_1).isSome) then bif (!rrt_v x0_0 x0_1) then (some (0, 1, [])) else bif (rba_L0_p x0_1) then bif ((rmk_res x0_0 (rba_L0_v x0_1).snd).isSome) then some ((rmk_v x0_0 (rba_L0_v x0_1).snd).fst, (rmk_v x0_0 (rba_L0_v x0_1).snd).snd.fst, (rmk_v x0_0 (rba_L0_v x0_1).snd).snd.snd) else none else none else none
set_option maxRecDepth 100000 in
theorem rba_tree {x0_0 : Int} {x0_1 : List (List Ct)} {v : Int × Int × List (List Ct)} (h : rba_res x0_0 x0_1 = some v) : CallOk Try.prog 29 [.sv (.agg [.val false (.int .i64 x0_0), .ext 0])] [(0, .grid [.int .i64, .int .i64, .int .i64, .int .i64] x0_1)] 1 (rba_O v) :=
  eng_treeN (C := (⟨consOrbit9, fun f id nx => bif Nat.beq f 29 then (bif Nat.beq id 0 then some (rba_L0_lc x0_0 x0_1) else none) else none, fun f => false, noFacts, fun _ => 0⟩ : Cfg Try.prog)) noFacts_ok (n := 30) (f := 29) rba_O rba_rd rfl (by kernel_rfl) h
noncomputable def rba_v (x0_0 : Int) (x0_1 : List (List Ct)) : Int × Int × List (List Ct) := (rba_res x0_0 x0_1).getD default
theorem rba_spec (x0_0 : Int) (x0_1 : List (List Ct)) (h : ((rba_res x0_0 x0_1).isSome) = true) : rba_res x0_0 x0_1 = some (rba_v x0_0 x0_1) := opt_get h
noncomputable def rba_m (args : List RV) (hp : Hp) : Option ((Int × List (List Ct)) × List Nat) := match args with
  | [.sv (.agg [.val _ (.int .i64 x0_0), .ext i0])] => (match gridAt hp i0 [.int .i64, .int .i64, .int .i64, .int .i64] with
    | some x0_1 => some ((x0_0, x0_1), [i0])
    | _ => none)
  | _ => none
noncomputable def rba_con : Con Try.prog := conX Try.prog 29 rba_m 1 (fun x => [.sv (.agg [.val false (.int .i64 x.1), .ext 0])]) (fun x => [(0, .grid [.int .i64, .int .i64, .int .i64, .int .i64] x.2)]) (fun x => some ((rba_res x.1 x.2).isSome)) (fun x => rba_O (rba_v x.1 x.2))
  (by
    intro args hp x r h
    unfold rba_m at h
    split at h
    · split at h
      · rename_i g0
        cases h
        refine ⟨rfl, fun nx => ⟨rfl, ?_, ?_⟩⟩
        · intro i hi
          simp only [List.mem_cons, List.not_mem_nil, or_false] at hi
          rcases hi with rfl
          · exact ⟨_, List.mem_of_getElem? (i := 0) rfl, .inl (by simp [RV.ids, SV.ids, CV.ids])⟩
        · intro id o0 ho
          have := hlook_mem ho
          simp only [List.mem_cons, Prod.mk.injEq, List.not_mem_nil, or_false] at this
          rcases this with ⟨rfl, rfl⟩
          · exact ⟨_, gridAt_spec g0, rfl⟩
      · cases h
    · cases h)
  (fun x h => ⟨rfl, rfl, rba_tree (rba_spec x.1 x.2 (h _ rfl))⟩)

noncomputable def rsk_L0_S (x0_0 : Int) (x0_1 : List (List Ct)) (x1 : Int) (x2 : Int) (v : Int × List (List Ct)) : St := ⟨[.sv (.agg [.val false (.int .i64 x0_0), .ext 0]), .sv (.one (.val false (.int .u64 x1))), .sv (.one (.val false (.int .i64 x2))), .sv (.one (.ptr 1 0)), .dead, .dead, .sv (.one (.ptr 2 0)), .sv (.one (.val true (.int .i64 0))), .sv (.one (.ext 20)), .sv (.one (.val false (.int .i64 v.1))), .dead, .dead, .sv (.agg [.val false (.int .i64 x0_0), .ext 0]), .sv (.one (.val false (.bool (rrt_v x0_0 x0_1)))), .sv (.one (.val true (.bool false))), .dead, .dead, .dead, .dead, .dead, .dead, .dead, .dead, .dead, .dead, .dead, .dead, .dead, .dead, .dead, .dead, .dead, .dead, .dead, .dead, .dead, .dead, .dead, .dead, .dead, .dead, .dead, .dead, .dead, .dead, .dead, .dead, .dead, .dead, .dead, .dead, .dead, .dead, .dead, .dead, .dead, .dead, .dead, .dead, .dead, .dead, .dead], [(0, .grid ([Sh.int IntKind.i64, Sh.int IntKind.i64, Sh.int IntKind.i64, Sh.int IntKind.i64]) x0_1), (1, .cells [.val false (.int .i64 x0_0), .ext 0] 39), (2, .cells [.val true (.int .i64 0), .val true (Value.slice none 0 0)] 39), (20, .row ([(fun s => (List.replicate 3 s).flatten) [Sh.int IntKind.i64], [Sh.int IntKind.i64]].reverse.flatten) 115 v.2)], 21, []⟩
noncomputable def rsk_L0_T (x0_0 : Int) (x0_1 : List (List Ct)) (x1 : Int) (x2 : Int) (v : Int × List (List Ct)) : Ex × St := ((.exit 0), ⟨[.sv (.agg [.val false (.int .i64 x0_0), .ext 0]), .sv (.one (.val false (.int .u64 x1))), .sv (.one (.val false (.int .i64 x2))), .sv (.one (.ptr 1 0)), .dead, .dead, .sv (.one (.ptr 2 0)), .sv (.one (.val true (.int .i64 0))), .sv (.one (.ext 20)), .sv (.one (.val false (.int .i64 v.1))), .dead, .dead, .sv (.agg [.val false (.int .i64 x0_0), .ext 0]), .sv (.one (.val false (.bool (rrt_v x0_0 x0_1)))), .sv (.one (.val true (.bool false))), .dead, .dead, .dead, .dead, .dead, .dead, .dead, .dead, .dead, .dead, .dead, .dead, .dead, .dead, .dead, .dead, .dead, .dead, .dead, .dead, .dead, .dead, .dead, .dead, .dead, .dead, .dead, .dead, .dead, .dead, .dead, .dead, .dead, .dead, .dead, .dead, .dead, .dead, .dead, .dead, .dead, .dead, .dead, .dead, .dead, .dead, .dead], [(0, .grid ([Sh.int IntKind.i64, Sh.int IntKind.i64, Sh.int IntKind.i64, Sh.int IntKind.i64]) x0_1), (1, .cells [.val false (.int .i64 x0_0), .ext 0] 39), (2, .cells [.val true (.int .i64 0), .val true (Value.slice none 0 0)] 39), (20, .grid ([(fun s => (List.replicate 3 s).flatten) [Sh.int IntKind.i64], [Sh.int IntKind.i64]].reverse.flatten) v.2)], 22, []⟩)
noncomputable def rsk_L0_rd (ex : Ex) (s : St) : Option ((Int × List (List Ct)) ⊕ (Int × List (List Ct))) × List (Nat × Option Nat) := match ex with
  | .normal => (some (.inl (rI (frC s 9 0), rL s (frC s 8 0))), [(1, some 1), (2, some 2), rnOf 20 (frC s 8 0)])
  | .exit i => bif Nat.beq i 0 then (some (.inr (rI (frC s 9 0), rL s (frC s 8 0))), [(1, some 1), (2, some 2), (20, some 20)]) else (none, [])
  | _ => (none, [])
noncomputable def rsk_L0_step (x0_1 : List (List Ct)) (x1 : Int) (x2 : Int) : (Int × List (List Ct)) → Option ((Int × List (List Ct)) ⊕ (Int × List (List Ct))) := fun v => match v with
  | (vi0, vl0) => bif (decide (vi0 < (↑x0_1.length : Int))) then (bif ((Lit.int IntKind.u64 x1).wf) then bif ((Lit.int IntKind.u64 x1).wf) then bif ((Lit.int IntKind.u64 x1).wf) then bif (decide ((0 : Int) ≤ vi0 ∧ vi0 < (↑x0_1.length : Int))) then bif (decide ((0 : Int) ≤ vi0 ∧ vi0 < (↑x0_1.length : Int))) then bif (decide (vl0.length + [[Ct.i (rd x0_1 vi0.toNat 0).int, Ct.i (addS (rd x0_1 vi0.toNat 1).int (mulS x2 (subS (IntKind.i64.wrap ((2 : Int) * unitS x1 vi0 (0 : Int) (0 : Int) (0 : Int))) (65536 : Int)))), Ct.i (addS (rd x0_1 vi0.toNat 2).int (mulS x2 (subS (IntKind.i64.wrap ((2 : Int) * unitS x1 vi0 (0 : Int) (0 : Int) (1 : Int))) (65536 : Int)))), Ct.i (addS (rd x0_1 vi0.toNat 3).int (mulS x2 (subS (IntKind.i64.wrap ((2 : Int) * unitS x1 vi0 (0 : Int) (0 : Int) (2 : Int))) (65536 : Int))))]].length ≤ 9223372036854775807 ∧ (vl0.length + [[Ct.i (rd x0_1 vi0.toNat 0).int, Ct.i (addS (rd x0_1 vi0.toNat 1).int (mulS x2 (subS (IntKind.i64.wrap ((2 : Int) * unitS x1 vi0 (0 : Int) (0 : Int) (0 : Int))) (65536 : Int)))), Ct.i (addS (rd x0_1 vi0.toNat 2).int (mulS x2 (subS (IntKind.i64.wrap ((2 : Int) * unitS x1 vi0 (0 : Int) (0 : Int) (1 : Int))) (65536 : Int)))), Ct.i (addS (rd x0_1 vi0.toNat 3).int (mulS x2 (subS (IntKind.i64.wrap ((2 : Int) * unitS x1 vi0 (0 : Int) (0 : Int) (2 : Int))) (65536 : Int))))]].length) * 32 ≤ 140737488355328)) then some (.inl (IntKind.i64.wrap (vi0 + (1 : Int)), vl0 ++ [[Ct.i (rd x0_1 vi0.toNat 0).int, Ct.i (addS (rd x0_1 vi0.toNat 1).int (mulS x2 (subS (IntKind.i64.wrap ((2 : Int) * unitS x1 vi0 (0 : Int) (0 : Int) (0 : Int))) (65536 : Int)))), Ct.i (addS (rd x0_1 vi0.toNat 2).int (mulS x2 (subS (IntKind.i64.wrap ((2 : Int) * unitS x1 vi0 (0 : Int) (0 : Int) (1 : Int))) (65536 : Int)))), Ct.i (addS (rd x0_1 vi0.toNat 3).int (mulS x2 (subS (IntKind.i64.wrap ((2 : Int) * unitS x1 vi0 (0 : Int) (0 : Int) (2 : Int))) (65536 : Int))))]])) else none else none else none else none else none else none) else some (.inr (vi0, vl0))
noncomputable def rsk_L0_c : Code := loopC Try.prog 30 0
set_option maxRecDepth 100000 in
theorem rsk_L0_ok (x0_0 : Int) (x0_1 : List (List Ct)) (x1 : Int) (x2 : Int) : ∀ v, StepOk Try.prog 1 rsk_L0_c (rsk_L0_S x0_0 x0_1 x1 x2) (rsk_L0_T x0_0 x0_1 x1 x2) v (rsk_L0_step x0_1 x1 x2 v) := fun v => match v with | (vi0, vl0) => eng_step (C := (⟨consOrbit9, fun _ _ _ => none, fun f => false, noFacts, fun _ => 0⟩ : Cfg Try.prog)) noFacts_ok (n := 30) (f := 30) rsk_L0_rd (fun _ => rfl) (by kernel_rfl)
noncomputable def rsk_L0_p (x0_1 : List (List Ct)) (x1 : Int) (x2 : Int) : Bool := (iter (rsk_L0_step x0_1 x1 x2) (x0_1.length + 1) (0, [])).isSome
noncomputable def rsk_L0_v (x0_1 : List (List Ct)) (x1 : Int) (x2 : Int) : Int × List (List Ct) := loopRes (rsk_L0_step x0_1 x1 x2) (x0_1.length + 1) (0, [])
noncomputable def rsk_L0_lc (x0_0 : Int) (x0_1 : List (List Ct)) (x1 : Int) (x2 : Int) : LoopCon Try.prog := loopCon Try.prog 1 rsk_L0_c [(1, some 1), (2, some 2), (20, none)] (rsk_L0_S x0_0 x0_1 x1 x2) (rsk_L0_T x0_0 x0_1 x1 x2) 0 (rsk_L0_step x0_1 x1 x2) (rsk_L0_ok x0_0 x0_1 x1 x2) (x0_1.length + 1) (0, []) (rsk_L0_p x0_1 x1 x2) rfl (rsk_L0_v x0_1 x1 x2) rfl
noncomputable def rsk_O (v : Int × Int × List (List Ct)) : Out := ⟨.tup [.agg [.val false (.int .i64 v.1), .ext 23], .one (.val false (.int .i64 v.2.1))], [(23, .grid ([(fun s => (List.replicate 3 s).flatten) [Sh.int IntKind.i64], [Sh.int IntKind.i64]].reverse.flatten) v.2.2)], 43, []⟩
noncomputable def rsk_rd (out : Out) : Option (Int × Int × List (List Ct)) := some (rI (rvC out.v 0 0), rI (rvC out.v 1 0), hpL' out.up 23)
noncomputable def rsk_res (x0_0 : Int) (x0_1 : List (List Ct)) (x1 : Int) (x2 : Int) : Option (Int × Int × List (List Ct)) := bif ((rrt_res x0_0 x0_1).isSome) then bif (!rrt_v x0_0 x0_1) then (some (0, 1, [])) else bif (rsk_L0_p x0_1 x1 x2) then bif ((rmk_res x0_0 (rsk_L0_v x0_1 x1 x2).snd).isSome) then some ((rmk_v x0_0 (rsk_L0_v x0_1 x1 x2).snd).fst, (rmk_v x0_0 (rsk_L0_v x0_1 x1 x2).snd).snd.fst, (rmk_v x0_0 (rsk_L0_v x0_1 x1 x2).snd).snd.snd) else none else none else none
set_option maxRecDepth 100000 in
theorem rsk_tree {x0_0 : Int} {x0_1 : List (List Ct)} {x1 : Int} {x2 : Int} {v : Int × Int × List (List Ct)} (h : rsk_res x0_0 x0_1 x1 x2 = some v) : CallOk Try.prog 30 [.sv (.agg [.val false (.int .i64 x0_0), .ext 0]), .sv (.one (.val false (.int .u64 x1))), .sv (.one (.val false (.int .i64 x2)))] [(0, .grid [.int .i64, .int .i64, .int .i64, .int .i64] x0_1)] 1 (rsk_O v) :=
  eng_treeN (C := (⟨consOrbit9, fun f id nx => bif Nat.beq f 30 then (bif Nat.beq id 0 then some (rsk_L0_lc x0_0 x0_1 x1 x2) else none) else none, fun f => false, noFacts, fun _ => 0⟩ : Cfg Try.prog)) noFacts_ok (n := 30) (f := 30) rsk_O rsk_rd rfl (by kernel_rfl) h
noncomputable def rsk_v (x0_0 : Int) (x0_1 : List (List Ct)) (x1 : Int) (x2 : Int) : Int × Int × List (List Ct) := (rsk_res x0_0 x0_1 x1 x2).getD default
theorem rsk_spec (x0_0 : Int) (x0_1 : List (List Ct)) (x1 : Int) (x2 : Int) (h : ((rsk_res x0_0 x0_1 x1 x2).isSome) = true) : rsk_res x0_0 x0_1 x1 x2 = some (rsk_v x0_0 x0_1 x1 x2) := opt_get h
noncomputable def rsk_m (args : List RV) (hp : Hp) : Option ((Int × List (List Ct) × Int × Int) × List Nat) := match args with
  | [.sv (.agg [.val _ (.int .i64 x0_0), .ext i0]), .sv (.one (.val _ (.int .u64 x1))), .sv (.one (.val _ (.int .i64 x2)))] => (match gridAt hp i0 [.int .i64, .int .i64, .int .i64, .int .i64] with
    | some x0_1 => some ((x0_0, x0_1, x1, x2), [i0])
    | _ => none)
  | _ => none
noncomputable def rsk_con : Con Try.prog := conX Try.prog 30 rsk_m 1 (fun x => [.sv (.agg [.val false (.int .i64 x.1), .ext 0]), .sv (.one (.val false (.int .u64 x.2.2.1))), .sv (.one (.val false (.int .i64 x.2.2.2)))]) (fun x => [(0, .grid [.int .i64, .int .i64, .int .i64, .int .i64] x.2.1)]) (fun x => some ((rsk_res x.1 x.2.1 x.2.2.1 x.2.2.2).isSome)) (fun x => rsk_O (rsk_v x.1 x.2.1 x.2.2.1 x.2.2.2))
  (by
    intro args hp x r h
    unfold rsk_m at h
    split at h
    · split at h
      · rename_i g0
        cases h
        refine ⟨rfl, fun nx => ⟨rfl, ?_, ?_⟩⟩
        · intro i hi
          simp only [List.mem_cons, List.not_mem_nil, or_false] at hi
          rcases hi with rfl
          · exact ⟨_, List.mem_of_getElem? (i := 0) rfl, .inl (by simp [RV.ids, SV.ids, CV.ids])⟩
        · intro id o0 ho
          have := hlook_mem ho
          simp only [List.mem_cons, Prod.mk.injEq, List.not_mem_nil, or_false] at this
          rcases this with ⟨rfl, rfl⟩
          · exact ⟨_, gridAt_spec g0, rfl⟩
      · cases h
    · cases h)
  (fun x h => ⟨rfl, rfl, rsk_tree (rsk_spec x.1 x.2.1 x.2.2.1 x.2.2.2 (h _ rfl))⟩)
noncomputable def consOrbitB : List (Con Try.prog) := [srv_con, ola_con, osk_con, rla_con, rba_con, rsk_con] ++ consOrbit9
end Go.Proofs.Ytigjlhhglhbbpaa
