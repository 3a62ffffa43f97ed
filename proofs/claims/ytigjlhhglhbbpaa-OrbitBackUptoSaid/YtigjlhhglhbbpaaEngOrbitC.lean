/- Tracks from their ends on. No condition. -/
import Derived.Test.YtigjlhhglhbbpaaEngOrbitB
set_option linter.unusedVariables false
set_option linter.unusedSimpArgs false
namespace Go.Proofs.Ytigjlhhglhbbpaa
open Go.RowKit

noncomputable def oba_L0_S (x0_0 : Int) (x0_1 : List (List Ct)) (v : Int × List (List Ct)) : St := ⟨[.sv (.agg [.val false (.int .i64 x0_0), .ext 0]), .sv (.one (.ptr 1 0)), .sv (.one (.ptr 2 0)), .sv (.one (.val true (.int .i64 0))), .sv (.one (.ext 27)), .sv (.one (.val false (.int .i64 (IntKind.i64.wrap ((rd ([] ++ x0_1) (Int.toNat (0 : Int)) 0).int + (rd ([] ++ x0_1) (IntKind.i64.wrap ((↑([] ++ x0_1).length : Int) - (1 : Int))).toNat 0).int))))), .dead, .sv (.agg [.val false (.int .i64 x0_0), .ext 0]), .sv (.one (.val false (.bool (trt_v x0_0 x0_1)))), .sv (.one (.val true (.bool false))), .dead, .sv (.one (.ptr 1 1)), .sv (.one (.ext 0)), .sv (.one (.ext 27)), .sv (.one (.ext 27)), .sv (.one (.eptr 28 0)), .sv (.one (.eptr 28 0)), .sv (.one (.val false (.int .i64 ((rd ([] ++ x0_1) (Int.toNat (0 : Int)) 0).int)))), .sv (.one (.ext 27)), .sv (.one (.ext 27)), .sv (.one (.val false (.int .i64 (↑([] ++ x0_1).length : Int)))), .sv (.one (.val false (.int .i64 (IntKind.i64.wrap ((↑([] ++ x0_1).length : Int) - (1 : Int)))))), .sv (.one (.eptr 29 0)), .sv (.one (.eptr 29 0)), .sv (.one (.val false (.int .i64 ((rd ([] ++ x0_1) (IntKind.i64.wrap ((↑([] ++ x0_1).length : Int) - (1 : Int))).toNat 0).int)))), .sv (.one (.val false (.int .i64 (IntKind.i64.wrap ((rd ([] ++ x0_1) (Int.toNat (0 : Int)) 0).int + (rd ([] ++ x0_1) (IntKind.i64.wrap ((↑([] ++ x0_1).length : Int) - (1 : Int))).toNat 0).int))))), .sv (.one (.ext 27)), .sv (.one (.val false (.int .i64 (↑([] ++ x0_1).length : Int)))), .sv (.one (.val false (.int .i64 v.1))), .dead, .dead, .dead, .dead, .dead, .dead, .dead, .dead, .dead, .dead, .dead, .dead, .dead, .dead, .dead, .dead, .dead, .dead, .dead, .dead, .dead, .dead], [(0, .grid ([Sh.int IntKind.i64, Sh.int IntKind.i64, Sh.int IntKind.i64, Sh.int IntKind.i64]) x0_1), (1, .cells [.val false (.int .i64 x0_0), .ext 0] 33), (2, .cells [.val true (.int .i64 0), .val true (Value.slice none 0 0)] 33), (27, .row ([[[Sh.int IntKind.i64], [Sh.int IntKind.i64], [Sh.int IntKind.i64]].reverse.flatten, [Sh.int IntKind.i64]].reverse.flatten) 128 v.2), (28, .elem 27 0 4), (29, .elem 27 (Int.rec (fun a => (fun a => (fun n => n) a) a) (fun a => (fun a => (fun a => (0 : Nat)) a) a) (IntKind.i64.wrap ((↑([] ++ x0_1).length : Int) - (1 : Int)))) 4)], 30, []⟩
noncomputable def oba_L0_T (x0_0 : Int) (x0_1 : List (List Ct)) (v : Int × List (List Ct)) : Ex × St := ((.exit 0), ⟨[.sv (.agg [.val false (.int .i64 x0_0), .ext 0]), .sv (.one (.ptr 1 0)), .sv (.one (.ptr 2 0)), .sv (.one (.val true (.int .i64 0))), .sv (.one (.ext 27)), .sv (.one (.val false (.int .i64 (IntKind.i64.wrap ((rd ([] ++ x0_1) (Int.toNat (0 : Int)) 0).int + (rd ([] ++ x0_1) (IntKind.i64.wrap ((↑([] ++ x0_1).length : Int) - (1 : Int))).toNat 0).int))))), .dead, .sv (.agg [.val false (.int .i64 x0_0), .ext 0]), .sv (.one (.val false (.bool (trt_v x0_0 x0_1)))), .sv (.one (.val true (.bool false))), .dead, .sv (.one (.ptr 1 1)), .sv (.one (.ext 0)), .sv (.one (.ext 27)), .sv (.one (.ext 27)), .sv (.one (.eptr 28 0)), .sv (.one (.eptr 28 0)), .sv (.one (.val false (.int .i64 ((rd ([] ++ x0_1) (Int.toNat (0 : Int)) 0).int)))), .sv (.one (.ext 27)), .sv (.one (.ext 27)), .sv (.one (.val false (.int .i64 (↑([] ++ x0_1).length : Int)))), .sv (.one (.val false (.int .i64 (IntKind.i64.wrap ((↑([] ++ x0_1).length : Int) - (1 : Int)))))), .sv (.one (.eptr 29 0)), .sv (.one (.eptr 29 0)), .sv (.one (.val false (.int .i64 ((rd ([] ++ x0_1) (IntKind.i64.wrap ((↑([] ++ x0_1).length : Int) - (1 : Int))).toNat 0).int)))), .sv (.one (.val false (.int .i64 (IntKind.i64.wrap ((rd ([] ++ x0_1) (Int.toNat (0 : Int)) 0).int + (rd ([] ++ x0_1) (IntKind.i64.wrap ((↑([] ++ x0_1).length : Int) - (1 : Int))).toNat 0).int))))), .sv (.one (.ext 27)), .sv (.one (.val false (.int .i64 (↑([] ++ x0_1).length : Int)))), .sv (.one (.val false (.int .i64 v.1))), .dead, .dead, .dead, .dead, .dead, .dead, .dead, .dead, .dead, .dead, .dead, .dead, .dead, .dead, .dead, .dead, .dead, .dead, .dead, .dead, .dead, .dead], [(0, .grid ([Sh.int IntKind.i64, Sh.int IntKind.i64, Sh.int IntKind.i64, Sh.int IntKind.i64]) x0_1), (1, .cells [.val false (.int .i64 x0_0), .ext 0] 33), (2, .cells [.val true (.int .i64 0), .val true (Value.slice none 0 0)] 33), (27, .row ([[[Sh.int IntKind.i64], [Sh.int IntKind.i64], [Sh.int IntKind.i64]].reverse.flatten, [Sh.int IntKind.i64]].reverse.flatten) 128 v.2), (28, .elem 27 0 4), (29, .elem 27 (Int.rec (fun a => (fun a => (fun n => n) a) a) (fun a => (fun a => (fun a => (0 : Nat)) a) a) (IntKind.i64.wrap ((↑([] ++ x0_1).length : Int) - (1 : Int)))) 4)], 31, []⟩)
noncomputable def oba_L0_rd (ex : Ex) (s : St) : Option ((Int × List (List Ct)) ⊕ (Int × List (List Ct))) × List (Nat × Option Nat) := match ex with
  | .normal => (some (.inl (rI (frC s 28 0), rL s (frC s 4 0))), [(1, some 1), (2, some 2), (27, some 27), (28, some 28), (29, some 29)])
  | .exit i => bif Nat.beq i 0 then (some (.inr (rI (frC s 28 0), rL s (frC s 4 0))), [(1, some 1), (2, some 2), (27, some 27), (28, some 28), (29, some 29)]) else (none, [])
  | _ => (none, [])
noncomputable def oba_L0_step (x0_1 : List (List Ct)) : (Int × List (List Ct)) → Option ((Int × List (List Ct)) ⊕ (Int × List (List Ct))) := fun v => match v with
  | (vi0, vl0) => bif (decide (vi0 < (↑([] ++ x0_1).length : Int))) then (bif (decide ((0 : Int) ≤ vi0 ∧ vi0 < (↑vl0.length : Int))) then bif (decide ((0 : Int) ≤ vi0 ∧ vi0 < (↑vl0.length : Int))) then some (.inl (IntKind.i64.wrap (vi0 + (1 : Int)), vl0.set vi0.toNat (updRow 4 0 [Ct.i (IntKind.i64.wrap (IntKind.i64.wrap ((rd ([] ++ x0_1) (Int.toNat (0 : Int)) 0).int + (rd ([] ++ x0_1) (IntKind.i64.wrap ((↑([] ++ x0_1).length : Int) - (1 : Int))).toNat 0).int) - (rd vl0 vi0.toNat 0).int))] (vl0.getD vi0.toNat [])))) else none else none) else some (.inr (vi0, vl0))
noncomputable def oba_L0_c : Code := loopC Try.prog 22 0
set_option maxRecDepth 100000 in
theorem oba_L0_ok (x0_0 : Int) (x0_1 : List (List Ct)) : ∀ v, StepOk Try.prog 1 oba_L0_c (oba_L0_S x0_0 x0_1) (oba_L0_T x0_0 x0_1) v (oba_L0_step x0_1 v) := fun v => match v with | (vi0, vl0) => eng_step (C := (⟨consOrbitB, fun _ _ _ => none, fun f => false, noFacts, fun _ => 0⟩ : Cfg Try.prog)) noFacts_ok (n := 30) (f := 22) oba_L0_rd (fun _ => rfl) (by kernel_rfl)
noncomputable def oba_L0_p (x0_1 : List (List Ct)) : Bool := (iter (oba_L0_step x0_1) (x0_1.length + 1) (0, ([] ++ x0_1))).isSome
noncomputable def oba_L0_v (x0_1 : List (List Ct)) : Int × List (List Ct) := loopRes (oba_L0_step x0_1) (x0_1.length + 1) (0, ([] ++ x0_1))
noncomputable def oba_L0_lc (x0_0 : Int) (x0_1 : List (List Ct)) : LoopCon Try.prog := loopCon Try.prog 1 oba_L0_c [(1, some 1), (2, some 2), (27, some 27), (28, some 28), (29, some 29)] (oba_L0_S x0_0 x0_1) (oba_L0_T x0_0 x0_1) 0 (oba_L0_step x0_1) (oba_L0_ok x0_0 x0_1) (x0_1.length + 1) (0, ([] ++ x0_1)) (oba_L0_p x0_1) rfl (oba_L0_v x0_1) rfl
noncomputable def oba_O (v : Int × Int × List (List Ct)) : Out := ⟨.tup [.agg [.val false (.int .i64 v.1), .ext 39], .one (.val false (.int .i64 v.2.1))], [(39, .grid ([[[Sh.int IntKind.i64], [Sh.int IntKind.i64], [Sh.int IntKind.i64]].reverse.flatten, [Sh.int IntKind.i64]].reverse.flatten) v.2.2)], 64, []⟩
noncomputable def oba_rd (out : Out) : Option (Int × Int × List (List Ct)) := some (rI (rvC out.v 0 0), rI (rvC out.v 1 0), hpL' out.up 39)
noncomputable def oba_res (x0_0 : Int) (x0_1 : List (List Ct)) : Option (Int × Int × List (List Ct)) := bif ((trt_res x0_0 x0_1).isSome) then bif (!trt_v x0_0 x0_1) then (some (0, 1, [])) else bif (decide (0 < x0_1.length)) then bif (decide (0 + x0_1.length ≤ 9223372036854775807 ∧ (0 + x0_1.length) * 32 ≤ 140737488355328)) then bif (decide ((0 : Int) ≤ (0 : Int) ∧ (0 : Int) < (↑([] ++ x0_1).length : Int))) then bif (decide ((0 : Int) ≤ IntKind.i64.wrap ((↑([] ++ x0_1).length : Int) - (1 : Int)) ∧ IntKind.i64.wrap ((↑([] ++ x0_1).length : Int) - (1 : Int)) < (↑([] ++ x0_1).length : Int))) then bif (oba_L0_p x0_1) then bif ((srv_res (oba_L0_v x0_1).snd).isSome) then bif ((tmk_res x0_0 (srv_v (oba_L0_v x0_1).snd)).isSome) then some ((tmk_v x0_0 (srv_v (oba_L0_v x0_1).snd)).fst, (tmk_v x0_0 (srv_v (oba_L0_v x0_1).snd)).snd.fst, (tmk_v x0_0 (srv_v (oba_L0_v x0_1).snd)).snd.snd) else none else none else none else none else none else none else none else none
set_option maxRecDepth 100000 in
theorem oba_tree {x0_0 : Int} {x0_1 : List (List Ct)} {v : Int × Int × List (List Ct)} (h : oba_res x0_0 x0_1 = some v) : CallOk Try.prog 22 [.sv (.agg [.val false (.int .i64 x0_0), .ext 0])] [(0, .grid [.int .i64, .int .i64, .int .i64, .int .i64] x0_1)] 1 (oba_O v) :=
  eng_treeN (C := (⟨consOrbitB, fun f id nx => bif Nat.beq f 22 then (bif Nat.beq id 0 then some (oba_L0_lc x0_0 x0_1) else none) else none, fun f => false, noFacts, fun _ => 0⟩ : Cfg Try.prog)) noFacts_ok (n := 30) (f := 22) oba_O oba_rd rfl (by kernel_rfl) h
noncomputable def oba_v (x0_0 : Int) (x0_1 : List (List Ct)) : Int × Int × List (List Ct) := (oba_res x0_0 x0_1).getD default
theorem oba_spec (x0_0 : Int) (x0_1 : List (List Ct)) (h : ((oba_res x0_0 x0_1).isSome) = true) : oba_res x0_0 x0_1 = some (oba_v x0_0 x0_1) := opt_get h
noncomputable def oba_m (args : List RV) (hp : Hp) : Option ((Int × List (List Ct)) × List Nat) := match args with
  | [.sv (.agg [.val _ (.int .i64 x0_0), .ext i0])] => (match gridAt hp i0 [.int .i64, .int .i64, .int .i64, .int .i64] with
    | some x0_1 => some ((x0_0, x0_1), [i0])
    | _ => none)
  | _ => none
noncomputable def oba_con : Con Try.prog := conX Try.prog 22 oba_m 1 (fun x => [.sv (.agg [.val false (.int .i64 x.1), .ext 0])]) (fun x => [(0, .grid [.int .i64, .int .i64, .int .i64, .int .i64] x.2)]) (fun x => some ((oba_res x.1 x.2).isSome)) (fun x => oba_O (oba_v x.1 x.2))
  (by
    intro args hp x r h
    unfold oba_m at h
    split at h
    · split at h
      · rename_i g0
        cases h
        refine ⟨rfl, fun nx => ⟨rfl, ?_, ?_⟩⟩
        · intro i hi
          simp only [List.mem_cons, List.not_mem_nil, or_false] at hi
          rcases hi with rfl
          · exact ⟨_, List.mem_of_getElem? (i := 0) rfl, .inl (by simp [RV.ids, SV.ids, CV.ids])⟩
        · intro id o0 ho
          have := hlook_mem ho
          simp only [List.mem_cons, Prod.mk.injEq, List.not_mem_nil, or_false] at this
          rcases this with ⟨rfl, rfl⟩
          · exact ⟨_, gridAt_spec g0, rfl⟩
      · cases h
    · cases h)
  (fun x h => ⟨rfl, rfl, oba_tree (oba_spec x.1 x.2 (h _ rfl))⟩)
noncomputable def consOrbitC : List (Con Try.prog) := [oba_con] ++ consOrbitB
end Go.Proofs.Ytigjlhhglhbbpaa
