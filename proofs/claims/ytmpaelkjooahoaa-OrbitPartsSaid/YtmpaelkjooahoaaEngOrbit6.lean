/- Tracks that are made, by definition. No condition. -/
import Derived.Test.YtmpaelkjooahoaaEngOrbit5
set_option linter.unusedVariables false
set_option linter.unusedSimpArgs false
namespace Go.Proofs.Ytmpaelkjooahoaa
open Go.RowKit

noncomputable def rmk_L2_S (x0 : Int) (x1 : List (List Ct)) (vi0 : Int) (vl0 : List (List Ct)) (v : Bool × Int × List (List Ct)) : St := ⟨[.o (.q x0), .o (.ext 0), .d, .d, .o (.ptr 1 0), .o (.val true (.int .i64 0)), .o (.ext 2), .o (.q vi0), .o (.ptr 5 0), .o (.ext 6), .o (.val false (.bool v.1)), .o (.q v.2.1), .d, .o (.q vi0), .o (.ext 0), .o (.q (↑x1.length : Int)), .o (.val true (.bool true)), .d, .d, .o (.ext 0), .o (.q vi0), .o (.eptr 4 0), .sv (.agg [.q ((rd x1 vi0.toNat 0).int), .q ((rd x1 vi0.toNat 1).int), .q ((rd x1 vi0.toNat 2).int), .q ((rd x1 vi0.toNat 3).int)]), .d, .d, .d, .d, .d, .d, .d, .d, .d, .d, .d, .d, .d, .d, .d, .d, .d, .d, .d, .d, .d, .d, .d, .d, .d, .d, .d, .d, .d, .d, .d, .d, .d, .d, .d, .d, .d, .d, .d, .d, .d, .d, .d, .d, .d, .d, .d, .d, .d, .d, .d, .d, .d, .d, .d, .d], [(0, .grid ([Sh.int IntKind.i64, Sh.int IntKind.i64, Sh.int IntKind.i64, Sh.int IntKind.i64]) x1), (1, .cells [.val true (.int .i64 0), .val true (Value.slice none 0 0)] 39), (2, .row ([Sh.int IntKind.i64, Sh.int IntKind.i64, Sh.int IntKind.i64, Sh.int IntKind.i64]) 73 vl0), (4, .elem 0 (Int.rec (fun a => (fun a => (fun n => n) a) a) (fun a => (fun a => (fun a => (0 : Nat)) a) a) vi0) 4), (5, .cells [.q ((rd x1 vi0.toNat 0).int), .q ((rd x1 vi0.toNat 1).int), .q ((rd x1 vi0.toNat 2).int), .q ((rd x1 vi0.toNat 3).int)] 73), (6, .row ([Sh.int IntKind.i64, Sh.int IntKind.i64, Sh.int IntKind.i64, Sh.int IntKind.i64]) 73 v.2.2)], 7, []⟩
noncomputable def rmk_L2_T (x0 : Int) (x1 : List (List Ct)) (vi0 : Int) (vl0 : List (List Ct)) (v : Bool × Int × List (List Ct)) : Ex × St := ((.exit 2), ⟨(rmk_L2_S x0 x1 vi0 vl0 v).fr, (rmk_L2_S x0 x1 vi0 vl0 v).hp, 8, []⟩)
noncomputable def rmk_L2_rd (ex : Ex) (s : St) : Option ((Bool × Int × List (List Ct)) ⊕ (Bool × Int × List (List Ct))) × List (Nat × Option Nat) := match ex with
  | .normal => (some (.inl (rB (frC s 10 0), rI (frC s 11 0), rL s (frC s 9 0))), [(1, some 1), (2, some 2), (4, some 4), (5, some 5), rnOf 6 (frC s 9 0)])
  | .exit i => bif Nat.beq i 2 then (some (.inr (rB (frC s 10 0), rI (frC s 11 0), rL s (frC s 9 0))), [(1, some 1), (2, some 2), (4, some 4), (5, some 5), (6, some 6)]) else (none, [])
  | _ => (none, [])
noncomputable def rmk_L2_step (x1 : List (List Ct)) (vi0 : Int) (vl0 : List (List Ct)) : (Bool × Int × List (List Ct)) → Option ((Bool × Int × List (List Ct)) ⊕ (Bool × Int × List (List Ct))) := fun v => match v with
  | (wb0, wi0, wl0) => bif (decide (wi0 < (↑vl0.length : Int))) then (bif (decide ((0 : Int) ≤ wi0 ∧ wi0 < (↑vl0.length : Int))) then bif ((rd vl0 wi0.toNat 0).int == (rd x1 vi0.toNat 0).int) then (bif (decide (wl0.length + [[Ct.i (rd x1 vi0.toNat 0).int, Ct.i (rd x1 vi0.toNat 1).int, Ct.i (rd x1 vi0.toNat 2).int, Ct.i (rd x1 vi0.toNat 3).int]].length ≤ 9223372036854775807 ∧ (wl0.length + [[Ct.i (rd x1 vi0.toNat 0).int, Ct.i (rd x1 vi0.toNat 1).int, Ct.i (rd x1 vi0.toNat 2).int, Ct.i (rd x1 vi0.toNat 3).int]].length) * 32 ≤ 140737488355328)) then some (.inl (true, IntKind.i64.wrap (wi0 + (1 : Int)), wl0 ++ [[Ct.i (rd x1 vi0.toNat 0).int, Ct.i (rd x1 vi0.toNat 1).int, Ct.i (rd x1 vi0.toNat 2).int, Ct.i (rd x1 vi0.toNat 3).int]])) else none) else bif (decide ((0 : Int) ≤ wi0 ∧ wi0 < (↑vl0.length : Int))) then bif (decide ((rd vl0 wi0.toNat 0).int > (rd x1 vi0.toNat 0).int)) then (bif (!wb0) then (bif (decide (wl0.length + [[Ct.i (rd x1 vi0.toNat 0).int, Ct.i (rd x1 vi0.toNat 1).int, Ct.i (rd x1 vi0.toNat 2).int, Ct.i (rd x1 vi0.toNat 3).int]].length ≤ 9223372036854775807 ∧ (wl0.length + [[Ct.i (rd x1 vi0.toNat 0).int, Ct.i (rd x1 vi0.toNat 1).int, Ct.i (rd x1 vi0.toNat 2).int, Ct.i (rd x1 vi0.toNat 3).int]].length) * 32 ≤ 140737488355328)) then bif (decide ((0 : Int) ≤ wi0 ∧ wi0 < (↑vl0.length : Int))) then bif (decide ((wl0 ++ [[Ct.i (rd x1 vi0.toNat 0).int, Ct.i (rd x1 vi0.toNat 1).int, Ct.i (rd x1 vi0.toNat 2).int, Ct.i (rd x1 vi0.toNat 3).int]]).length + [[Ct.i (rd vl0 wi0.toNat 0).int, Ct.i (rd vl0 wi0.toNat 1).int, Ct.i (rd vl0 wi0.toNat 2).int, Ct.i (rd vl0 wi0.toNat 3).int]].length ≤ 9223372036854775807 ∧ ((wl0 ++ [[Ct.i (rd x1 vi0.toNat 0).int, Ct.i (rd x1 vi0.toNat 1).int, Ct.i (rd x1 vi0.toNat 2).int, Ct.i (rd x1 vi0.toNat 3).int]]).length + [[Ct.i (rd vl0 wi0.toNat 0).int, Ct.i (rd vl0 wi0.toNat 1).int, Ct.i (rd vl0 wi0.toNat 2).int, Ct.i (rd vl0 wi0.toNat 3).int]].length) * 32 ≤ 140737488355328)) then some (.inl (true, IntKind.i64.wrap (wi0 + (1 : Int)), wl0 ++ [[Ct.i (rd x1 vi0.toNat 0).int, Ct.i (rd x1 vi0.toNat 1).int, Ct.i (rd x1 vi0.toNat 2).int, Ct.i (rd x1 vi0.toNat 3).int]] ++ [[Ct.i (rd vl0 wi0.toNat 0).int, Ct.i (rd vl0 wi0.toNat 1).int, Ct.i (rd vl0 wi0.toNat 2).int, Ct.i (rd vl0 wi0.toNat 3).int]])) else none else none else none) else bif (decide ((0 : Int) ≤ wi0 ∧ wi0 < (↑vl0.length : Int))) then bif (decide (wl0.length + [[Ct.i (rd vl0 wi0.toNat 0).int, Ct.i (rd vl0 wi0.toNat 1).int, Ct.i (rd vl0 wi0.toNat 2).int, Ct.i (rd vl0 wi0.toNat 3).int]].length ≤ 9223372036854775807 ∧ (wl0.length + [[Ct.i (rd vl0 wi0.toNat 0).int, Ct.i (rd vl0 wi0.toNat 1).int, Ct.i (rd vl0 wi0.toNat 2).int, Ct.i (rd vl0 wi0.toNat 3).int]].length) * 32 ≤ 140737488355328)) then some (.inl (wb0, IntKind.i64.wrap (wi0 + (1 : Int)), wl0 ++ [[Ct.i (rd vl0 wi0.toNat 0).int, Ct.i (rd vl0 wi0.toNat 1).int, Ct.i (rd vl0 wi0.toNat 2).int, Ct.i (rd vl0 wi0.toNat 3).int]])) else none else none) else bif (decide ((0 : Int) ≤ wi0 ∧ wi0 < (↑vl0.length : Int))) then bif (decide (wl0.length + [[Ct.i (rd vl0 wi0.toNat 0).int, Ct.i (rd vl0 wi0.toNat 1).int, Ct.i (rd vl0 wi0.toNat 2).int, Ct.i (rd vl0 wi0.toNat 3).int]].length ≤ 9223372036854775807 ∧ (wl0.length + [[Ct.i (rd vl0 wi0.toNat 0).int, Ct.i (rd vl0 wi0.toNat 1).int, Ct.i (rd vl0 wi0.toNat 2).int, Ct.i (rd vl0 wi0.toNat 3).int]].length) * 32 ≤ 140737488355328)) then some (.inl (wb0, IntKind.i64.wrap (wi0 + (1 : Int)), wl0 ++ [[Ct.i (rd vl0 wi0.toNat 0).int, Ct.i (rd vl0 wi0.toNat 1).int, Ct.i (rd vl0 wi0.toNat 2).int, Ct.i (rd vl0 wi0.toNat 3).int]])) else none else none else none else none) else some (.inr (wb0, wi0, wl0))
noncomputable def rmk_L2_c : Code := loopC Try.prog 36 2
set_option maxRecDepth 100000 in
theorem rmk_L2_ok (x0 : Int) (x1 : List (List Ct)) (vi0 : Int) (vl0 : List (List Ct)) : ∀ v, StepOk Try.prog 1 rmk_L2_c (rmk_L2_S x0 x1 vi0 vl0) (rmk_L2_T x0 x1 vi0 vl0) v (rmk_L2_step x1 vi0 vl0 v) := fun v => match v with | (wb0, wi0, wl0) => eng_step (C := (⟨consOrbit5, fun _ _ _ => none, fun f => false, noFacts, fun _ => 0⟩ : Cfg Try.prog)) noFacts_ok (n := 30) (f := 36) rmk_L2_rd (fun _ => rfl) (by kernel_rfl)
noncomputable def rmk_L2_p (x1 : List (List Ct)) (vi0 : Int) (vl0 : List (List Ct)) : Bool := (iter (rmk_L2_step x1 vi0 vl0) (x1.length + 1) (false, 0, [])).isSome
noncomputable def rmk_L2_v (x1 : List (List Ct)) (vi0 : Int) (vl0 : List (List Ct)) : Bool × Int × List (List Ct) := loopRes (rmk_L2_step x1 vi0 vl0) (x1.length + 1) (false, 0, [])
set_option maxRecDepth 100000 in
noncomputable def rmk_L2_lc (x0 : Int) (x1 : List (List Ct)) (vi0 : Int) (vl0 : List (List Ct)) : LoopCon Try.prog := loopCon Try.prog 1 rmk_L2_c [(1, some 1), (2, some 2), (4, some 4), (5, some 5), (6, none)] (rmk_L2_S x0 x1 vi0 vl0) (rmk_L2_T x0 x1 vi0 vl0) 2 (rmk_L2_step x1 vi0 vl0) (rmk_L2_ok x0 x1 vi0 vl0) (x1.length + 1) (false, 0, []) (rmk_L2_p x1 vi0 vl0) rfl (rmk_L2_v x1 vi0 vl0) rfl
noncomputable def rmk_L0_S (x0 : Int) (x1 : List (List Ct)) (v : Int × List (List Ct)) : St := ⟨[.o (.q x0), .o (.ext 0), .d, .d, .o (.ptr 1 0), .o (.val true (.int .i64 0)), .o (.ext 2), .o (.q v.1), .d, .d, .d, .d, .d, .d, .d, .d, .d, .d, .d, .d, .d, .d, .d, .d, .d, .d, .d, .d, .d, .d, .d, .d, .d, .d, .d, .d, .d, .d, .d, .d, .d, .d, .d, .d, .d, .d, .d, .d, .d, .d, .d, .d, .d, .d, .d, .d, .d, .d, .d, .d, .d, .d, .d, .d, .d, .d, .d, .d, .d, .d, .d, .d, .d, .d, .d, .d, .d, .d, .d], [(0, .grid ([Sh.int IntKind.i64, Sh.int IntKind.i64, Sh.int IntKind.i64, Sh.int IntKind.i64]) x1), (1, .cells [.val true (.int .i64 0), .val true (Value.slice none 0 0)] 39), (2, .row ([Sh.int IntKind.i64, Sh.int IntKind.i64, Sh.int IntKind.i64, Sh.int IntKind.i64]) 73 v.2)], 3, []⟩
noncomputable def rmk_L0_T (x0 : Int) (x1 : List (List Ct)) (v : Int × List (List Ct)) : Ex × St := ((.exit 0), ⟨(rmk_L0_S x0 x1 v).fr, (rmk_L0_S x0 x1 v).hp, 4, []⟩)
noncomputable def rmk_L0_rd (ex : Ex) (s : St) : Option ((Int × List (List Ct)) ⊕ (Int × List (List Ct))) × List (Nat × Option Nat) := match ex with
  | .normal => (some (.inl (rI (frC s 7 0), rL s (frC s 6 0))), [(1, some 1), rnOf 2 (frC s 6 0)])
  | .exit i => bif Nat.beq i 0 then (some (.inr (rI (frC s 7 0), rL s (frC s 6 0))), [(1, some 1), (2, some 2)]) else (none, [])
  | _ => (none, [])
noncomputable def rmk_L0_step (x1 : List (List Ct)) : (Int × List (List Ct)) → Option ((Int × List (List Ct)) ⊕ (Int × List (List Ct))) := fun v => match v with
  | (vi0, vl0) => bif (decide (vi0 < (↑x1.length : Int))) then (bif (decide ((0 : Int) ≤ vi0 ∧ vi0 < (↑x1.length : Int))) then bif (rmk_L2_p x1 vi0 vl0) then bif (!(rmk_L2_v x1 vi0 vl0).fst) then (bif (decide ((rmk_L2_v x1 vi0 vl0).snd.snd.length + [[Ct.i (rd x1 vi0.toNat 0).int, Ct.i (rd x1 vi0.toNat 1).int, Ct.i (rd x1 vi0.toNat 2).int, Ct.i (rd x1 vi0.toNat 3).int]].length ≤ 9223372036854775807 ∧ ((rmk_L2_v x1 vi0 vl0).snd.snd.length + [[Ct.i (rd x1 vi0.toNat 0).int, Ct.i (rd x1 vi0.toNat 1).int, Ct.i (rd x1 vi0.toNat 2).int, Ct.i (rd x1 vi0.toNat 3).int]].length) * 32 ≤ 140737488355328)) then some (.inl (IntKind.i64.wrap (vi0 + (1 : Int)), (rmk_L2_v x1 vi0 vl0).snd.snd ++ [[Ct.i (rd x1 vi0.toNat 0).int, Ct.i (rd x1 vi0.toNat 1).int, Ct.i (rd x1 vi0.toNat 2).int, Ct.i (rd x1 vi0.toNat 3).int]])) else none) else some (.inl (IntKind.i64.wrap (vi0 + (1 : Int)), (rmk_L2_v x1 vi0 vl0).snd.snd)) else none else none) else some (.inr (vi0, vl0))
noncomputable def rmk_L0_c : Code := loopC Try.prog 36 0
set_option maxRecDepth 100000 in
theorem rmk_L0_ok (x0 : Int) (x1 : List (List Ct)) : ∀ v, StepOk Try.prog 1 rmk_L0_c (rmk_L0_S x0 x1) (rmk_L0_T x0 x1) v (rmk_L0_step x1 v) := fun v => match v with | (vi0, vl0) => eng_step (C := (⟨consOrbit5, fun f id nx => bif Nat.beq f 36 then (bif Nat.beq id 2 then some (rmk_L2_lc x0 x1 vi0 vl0) else none) else none, fun f => false, noFacts, fun _ => 0⟩ : Cfg Try.prog)) noFacts_ok (n := 30) (f := 36) rmk_L0_rd (fun _ => rfl) (by kernel_rfl)
noncomputable def rmk_L0_p (x1 : List (List Ct)) : Bool := (iter (rmk_L0_step x1) (x1.length + 1) (0, [])).isSome
noncomputable def rmk_L0_v (x1 : List (List Ct)) : Int × List (List Ct) := loopRes (rmk_L0_step x1) (x1.length + 1) (0, [])
set_option maxRecDepth 100000 in
noncomputable def rmk_L0_lc (x0 : Int) (x1 : List (List Ct)) : LoopCon Try.prog := loopCon Try.prog 1 rmk_L0_c [(1, some 1), (2, none)] (rmk_L0_S x0 x1) (rmk_L0_T x0 x1) 0 (rmk_L0_step x1) (rmk_L0_ok x0 x1) (x1.length + 1) (0, []) (rmk_L0_p x1) rfl (rmk_L0_v x1) rfl
noncomputable def rmk_O (v : Int × Int × List (List Ct)) : Out := ⟨.tup [.agg [.val false (.int .i64 v.1), .ext 2], .one (.val false (.int .i64 v.2.1))], [(2, .row ([Sh.int IntKind.i64, Sh.int IntKind.i64, Sh.int IntKind.i64, Sh.int IntKind.i64]) 73 v.2.2)], 22, []⟩
noncomputable def rmk_rd (out : Out) : Option (Int × Int × List (List Ct)) := some (rI (rvC out.v 0 0), rI (rvC out.v 1 0), hpL' out.up 2)
noncomputable def rmk_res (x0 : Int) (x1 : List (List Ct)) : Option (Int × Int × List (List Ct)) := bif (rmk_L0_p x1) then bif ((rrt_res x0 (rmk_L0_v x1).snd).isSome) then bif (!rrt_v x0 (rmk_L0_v x1).snd) then (some (0, 23, [])) else some (x0, 0, (rmk_L0_v x1).snd) else none else none
set_option maxRecDepth 100000 in
theorem rmk_tree {x0 : Int} {x1 : List (List Ct)} {v : Int × Int × List (List Ct)} (h : rmk_res x0 x1 = some v) : CallOk Try.prog 36 [.sv (.one (.val false (.int .i64 x0))), .sv (.one (.ext 0))] [(0, .grid [.int .i64, .int .i64, .int .i64, .int .i64] x1)] 1 (rmk_O v) :=
  eng_treeN (C := (⟨consOrbit5, fun f id nx => bif Nat.beq f 36 then (bif Nat.beq id 0 then some (rmk_L0_lc x0 x1) else none) else none, fun f => false, noFacts, fun _ => 0⟩ : Cfg Try.prog)) noFacts_ok (n := 30) (f := 36) rmk_O rmk_rd rfl (by kernel_rfl) h
noncomputable def rmk_v (x0 : Int) (x1 : List (List Ct)) : Int × Int × List (List Ct) := (rmk_res x0 x1).getD default
theorem rmk_spec (x0 : Int) (x1 : List (List Ct)) (h : ((rmk_res x0 x1).isSome) = true) : rmk_res x0 x1 = some (rmk_v x0 x1) := opt_get h
noncomputable def rmk_m (args : List RV) (hp : Hp) : Option ((Int × List (List Ct)) × List Nat) := match args with
  | [.sv (.one (.val _ (.int .i64 x0))), .sv (.one (.ext i0))] => (match gridAt hp i0 [.int .i64, .int .i64, .int .i64, .int .i64] with
    | some x1 => some ((x0, x1), [i0])
    | _ => none)
  | _ => none
noncomputable def rmk_con : Con Try.prog := conX Try.prog 36 rmk_m 1 (fun x => [.sv (.one (.val false (.int .i64 x.1))), .sv (.one (.ext 0))]) (fun x => [(0, .grid [.int .i64, .int .i64, .int .i64, .int .i64] x.2)]) (fun x => some ((rmk_res x.1 x.2).isSome)) (fun x => rmk_O (rmk_v x.1 x.2))
  (by
    intro args hp x r h
    unfold rmk_m at h
    split at h
    · split at h
      · rename_i g0
        cases h
        refine ⟨rfl, fun nx => ⟨rfl, ?_, ?_⟩⟩
        · intro i hi
          simp only [List.mem_cons, List.not_mem_nil, or_false] at hi
          rcases hi with rfl
          · exact ⟨_, List.mem_of_getElem? (i := 1) rfl, .inl (by simp [RV.ids, SV.ids, CV.ids])⟩
        · intro id o0 ho
          have := hlook_mem ho
          simp only [List.mem_cons, Prod.mk.injEq, List.not_mem_nil, or_false] at this
          rcases this with ⟨rfl, rfl⟩
          · exact ⟨_, gridAt_spec g0, rfl⟩
      · cases h
    · cases h)
  (fun x h => ⟨rfl, rfl, rmk_tree (rmk_spec x.1 x.2 (h _ rfl))⟩)
noncomputable def consOrbit6 : List (Con Try.prog) := [rmk_con.freezeR.freezeO] ++ consOrbit5
end Go.Proofs.Ytmpaelkjooahoaa
