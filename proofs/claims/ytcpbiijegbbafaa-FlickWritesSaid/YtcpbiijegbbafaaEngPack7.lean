/- The document's spread. No condition. -/
import Derived.Test.YtcpbiijegbbafaaEngPack6
set_option linter.unusedVariables false
set_option linter.unusedSimpArgs false
namespace Go.Proofs.Ytcpbiijegbbafaa
open Go.RowKit

noncomputable def rsp_L2_S (x0 : List (List Ct)) (x1 : Int) (vi0 : Int) (vl0 : List (List Ct)) (v : Int × List (List Ct)) : St := ⟨[.o (.ext 0), .o (.q x1), .d, .d, .o (.val true (Value.slice none 0 0)), .o (.val true (.int .i64 0)), .o (.ext 1), .o (.q vi0), .o (.q (IntKind.i64.wrap (rd x0 vi0.toNat 0).int)), .o (.ext 6), .o (.q v.1), .o (.q vi0), .o (.ext 0), .o (.q (↑x0.length : Int)), .o (.val true (.bool true)), .o (.ext 0), .o (.q vi0), .o (.eptr 3 0), .o (.val false (.int .u8 ((rd x0 vi0.toNat 0).int))), .o (.q (IntKind.i64.wrap (rd x0 vi0.toNat 0).int)), .o (.q (IntKind.i64.wrap (rd x0 vi0.toNat 0).int)), .o (.val true (.bool false)), .d, .d, .d, .d, .d, .d, .d, .d, .d, .d, .d, .d, .d, .d, .d, .d, .d, .d, .d, .d, .d, .d, .o (.q vi0), .o (.q (IntKind.i64.wrap (vi0 + (2 : Int)))), .o (.ext 0), .o (.q (↑x0.length : Int)), .o (.val true (.bool false)), .d, .d, .d, .d, .d, .d, .d, .d, .d, .d, .d, .d, .d, .d, .d, .d, .d, .d, .d, .d, .d, .d, .d, .d, .d, .d, .d, .d, .d, .d, .d], [(0, .grid ([Sh.int IntKind.u8]) x0), (1, .row ([Sh.int IntKind.u8]) 5 vl0), (3, .elem 0 (Int.rec (fun a => (fun a => (fun n => n) a) a) (fun a => (fun a => (fun a => (0 : Nat)) a) a) vi0) 1), (6, .row ([Sh.int IntKind.u8]) 5 v.2)], 7, []⟩
noncomputable def rsp_L2_T (x0 : List (List Ct)) (x1 : Int) (vi0 : Int) (vl0 : List (List Ct)) (v : Int × List (List Ct)) : Ex × St := ((.exit 2), ⟨(rsp_L2_S x0 x1 vi0 vl0 v).fr, (rsp_L2_S x0 x1 vi0 vl0 v).hp, 8, []⟩)
noncomputable def rsp_L2_rd (ex : Ex) (s : St) : Option ((Int × List (List Ct)) ⊕ (Int × List (List Ct))) × List (Nat × Option Nat) := match ex with
  | .normal => (some (.inl (rI (frC s 10 0), rL s (frC s 9 0))), [(1, some 1), (3, some 3), rnOf 6 (frC s 9 0)])
  | .exit i => bif Nat.beq i 2 then (some (.inr (rI (frC s 10 0), rL s (frC s 9 0))), [(1, some 1), (3, some 3), (6, some 6)]) else (none, [])
  | _ => (none, [])
noncomputable def rsp_L2_step (x0 : List (List Ct)) (x1 : Int) (vi0 : Int) (vl0 : List (List Ct)) : (Int × List (List Ct)) → Option ((Int × List (List Ct)) ⊕ (Int × List (List Ct))) := fun v => match v with
  | (wi0, wl0) => bif (decide (wi0 < IntKind.i64.wrap (IntKind.i64.wrap (rd x0 vi0.toNat 0).int - (126 : Int)))) then (bif (decide ((0 : Int) ≤ IntKind.i64.wrap (vi0 + (1 : Int)) ∧ IntKind.i64.wrap (vi0 + (1 : Int)) < (↑x0.length : Int))) then bif (decide (wl0.length + [[Ct.i (rd x0 (IntKind.i64.wrap (vi0 + (1 : Int))).toNat 0).int]].length ≤ 9223372036854775807 ∧ (wl0.length + [[Ct.i (rd x0 (IntKind.i64.wrap (vi0 + (1 : Int))).toNat 0).int]].length) * 1 ≤ 140737488355328)) then some (.inl (IntKind.i64.wrap (wi0 + (1 : Int)), wl0 ++ [[Ct.i (rd x0 (IntKind.i64.wrap (vi0 + (1 : Int))).toNat 0).int]])) else none else none) else some (.inr (wi0, wl0))
noncomputable def rsp_L2_c : Code := loopC Try.prog 95 2
set_option maxRecDepth 100000 in
theorem rsp_L2_ok (x0 : List (List Ct)) (x1 : Int) (vi0 : Int) (vl0 : List (List Ct)) : ∀ v, StepOk Try.prog 1 rsp_L2_c (rsp_L2_S x0 x1 vi0 vl0) (rsp_L2_T x0 x1 vi0 vl0) v (rsp_L2_step x0 x1 vi0 vl0 v) := fun v => match v with | (wi0, wl0) => eng_step (C := (⟨consPack, fun _ _ _ => none, fun f => false, noFacts, fun _ => 0⟩ : Cfg Try.prog)) noFacts_ok (n := 30) (f := 95) rsp_L2_rd (fun _ => rfl) (by kernel_rfl)
noncomputable def rsp_L2_p (x0 : List (List Ct)) (x1 : Int) (vi0 : Int) (vl0 : List (List Ct)) : Bool := (iter (rsp_L2_step x0 x1 vi0 vl0) 1000 (0, [])).isSome
noncomputable def rsp_L2_v (x0 : List (List Ct)) (x1 : Int) (vi0 : Int) (vl0 : List (List Ct)) : Int × List (List Ct) := loopRes (rsp_L2_step x0 x1 vi0 vl0) 1000 (0, [])
set_option maxRecDepth 100000 in
noncomputable def rsp_L2_lc (x0 : List (List Ct)) (x1 : Int) (vi0 : Int) (vl0 : List (List Ct)) : LoopCon Try.prog := loopCon Try.prog 1 rsp_L2_c [(1, some 1), (3, some 3), (6, none)] (rsp_L2_S x0 x1 vi0 vl0) (rsp_L2_T x0 x1 vi0 vl0) 2 (rsp_L2_step x0 x1 vi0 vl0) (rsp_L2_ok x0 x1 vi0 vl0) 1000 (0, []) (rsp_L2_p x0 x1 vi0 vl0) rfl (rsp_L2_v x0 x1 vi0 vl0) rfl
noncomputable def rsp_L0_S (x0 : List (List Ct)) (x1 : Int) (v : Int × List (List Ct)) : St := ⟨[.o (.ext 0), .o (.q x1), .d, .d, .o (.val true (Value.slice none 0 0)), .o (.val true (.int .i64 0)), .o (.ext 1), .o (.q v.1), .d, .d, .d, .d, .d, .d, .d, .d, .d, .d, .d, .d, .d, .d, .d, .d, .d, .d, .d, .d, .d, .d, .d, .d, .d, .d, .d, .d, .d, .d, .d, .d, .d, .d, .d, .d, .d, .d, .d, .d, .d, .d, .d, .d, .d, .d, .d, .d, .d, .d, .d, .d, .d, .d, .d, .d, .d, .d, .d, .d, .d, .d, .d, .d, .d, .d, .d, .d, .d, .d, .d, .d], [(0, .grid ([Sh.int IntKind.u8]) x0), (1, .row ([Sh.int IntKind.u8]) 5 v.2)], 2, []⟩
noncomputable def rsp_L0_T (x0 : List (List Ct)) (x1 : Int) : (Int × List (List Ct)) ⊕ (Int) → Ex × St
  | .inl v => ((.exit 0), ⟨[.o (.ext 0), .o (.q x1), .d, .d, .o (.val true (Value.slice none 0 0)), .o (.val true (.int .i64 0)), .o (.ext 1), .o (.q v.1), .d, .d, .d, .d, .d, .d, .d, .d, .d, .d, .d, .d, .d, .d, .d, .d, .d, .d, .d, .d, .d, .d, .d, .d, .d, .d, .d, .d, .d, .d, .d, .d, .d, .d, .d, .d, .d, .d, .d, .d, .d, .d, .d, .d, .d, .d, .d, .d, .d, .d, .d, .d, .d, .d, .d, .d, .d, .d, .d, .d, .d, .d, .d, .d, .d, .d, .d, .d, .d, .d, .d, .d], [(0, .grid ([Sh.int IntKind.u8]) x0), (1, .row ([Sh.int IntKind.u8]) 5 v.2)], 3, []⟩)
  | .inr v => (.ret, ⟨[.dead, .dead, .dead, .dead, .sv (.one (.val true (Value.slice none 0 0))), .sv (.one (.val false (.int .i64 v))), .dead, .dead, .dead, .dead, .dead, .dead, .dead, .dead, .dead, .dead, .dead, .dead, .dead, .dead, .dead, .dead, .dead, .dead, .dead, .dead, .dead, .dead, .dead, .dead, .dead, .dead, .dead, .dead, .dead, .dead, .dead, .dead, .dead, .dead, .dead, .dead, .dead, .dead, .dead, .dead, .dead, .dead, .dead, .dead, .dead, .dead, .dead, .dead, .dead, .dead, .dead, .dead, .dead, .dead, .dead, .dead, .dead, .dead, .dead, .dead, .dead, .dead, .dead, .dead, .dead, .dead, .dead, .dead, .dead, .dead, .dead, .dead, .dead, .dead], [(0, .grid ([Sh.int IntKind.u8]) x0)], 10, []⟩)
noncomputable def rsp_L0_rd (ex : Ex) (s : St) : Option ((Int × List (List Ct)) ⊕ ((Int × List (List Ct)) ⊕ (Int))) × List (Nat × Option Nat) := match ex with
  | .normal => (some (.inl (rI (frC s 7 0), rL s (frC s 6 0))), [rnOf 1 (frC s 6 0)])
  | .exit i => bif Nat.beq i 0 then (some (.inr (.inl (rI (frC s 7 0), rL s (frC s 6 0)))), [(1, some 1)]) else (none, [])
  | .ret => (some (.inr (.inr (rI (frC s 5 0)))), [])
noncomputable def rsp_L0_step (x0 : List (List Ct)) (x1 : Int) : (Int × List (List Ct)) → Option ((Int × List (List Ct)) ⊕ ((Int × List (List Ct)) ⊕ (Int))) := fun v => match v with
  | (vi0, vl0) => bif (decide (vi0 < (↑x0.length : Int))) then (bif (decide ((0 : Int) ≤ vi0 ∧ vi0 < (↑x0.length : Int))) then bif (decide (IntKind.i64.wrap (rd x0 vi0.toNat 0).int < (128 : Int))) then (bif (decide (IntKind.i64.wrap (IntKind.i64.wrap (IntKind.i64.wrap (vi0 + (1 : Int)) + IntKind.i64.wrap (rd x0 vi0.toNat 0).int) + (1 : Int)) > (↑x0.length : Int))) then (some (.inr (.inr 9))) else bif (decide ((0 : Int) ≤ IntKind.i64.wrap (vi0 + (1 : Int)) ∧ IntKind.i64.wrap (vi0 + (1 : Int)) ≤ IntKind.i64.wrap (IntKind.i64.wrap (vi0 + (2 : Int)) + IntKind.i64.wrap (rd x0 vi0.toNat 0).int) ∧ IntKind.i64.wrap (IntKind.i64.wrap (vi0 + (2 : Int)) + IntKind.i64.wrap (rd x0 vi0.toNat 0).int) ≤ (↑x0.length : Int))) then bif (decide (0 + (partOf x0 (IntKind.i64.wrap (vi0 + (1 : Int))) (IntKind.i64.wrap (IntKind.i64.wrap (vi0 + (2 : Int)) + IntKind.i64.wrap (rd x0 vi0.toNat 0).int))).length ≤ 9223372036854775807 ∧ (0 + (partOf x0 (IntKind.i64.wrap (vi0 + (1 : Int))) (IntKind.i64.wrap (IntKind.i64.wrap (vi0 + (2 : Int)) + IntKind.i64.wrap (rd x0 vi0.toNat 0).int))).length) * 1 ≤ 140737488355328)) then bif (decide (x1 < (0 : Int))) then (some (.inr (.inr 8))) else bif (decide (IntKind.i64.wrap ((↑vl0.length : Int) + (↑([] ++ partOf x0 (IntKind.i64.wrap (vi0 + (1 : Int))) (IntKind.i64.wrap (IntKind.i64.wrap (vi0 + (2 : Int)) + IntKind.i64.wrap (rd x0 vi0.toNat 0).int))).length : Int)) > x1)) then (some (.inr (.inr 8))) else bif (decide (vl0.length + ([] ++ partOf x0 (IntKind.i64.wrap (vi0 + (1 : Int))) (IntKind.i64.wrap (IntKind.i64.wrap (vi0 + (2 : Int)) + IntKind.i64.wrap (rd x0 vi0.toNat 0).int))).length ≤ 9223372036854775807 ∧ (vl0.length + ([] ++ partOf x0 (IntKind.i64.wrap (vi0 + (1 : Int))) (IntKind.i64.wrap (IntKind.i64.wrap (vi0 + (2 : Int)) + IntKind.i64.wrap (rd x0 vi0.toNat 0).int))).length) * 1 ≤ 140737488355328)) then some (.inl (IntKind.i64.wrap (IntKind.i64.wrap (vi0 + (2 : Int)) + IntKind.i64.wrap (rd x0 vi0.toNat 0).int), vl0 ++ ([] ++ partOf x0 (IntKind.i64.wrap (vi0 + (1 : Int))) (IntKind.i64.wrap (IntKind.i64.wrap (vi0 + (2 : Int)) + IntKind.i64.wrap (rd x0 vi0.toNat 0).int))))) else none else none else none) else bif (decide (IntKind.i64.wrap (vi0 + (2 : Int)) > (↑x0.length : Int))) then (some (.inr (.inr 9))) else bif (rsp_L2_p x0 x1 vi0 vl0) then bif (decide (x1 < (0 : Int))) then (some (.inr (.inr 8))) else bif (decide (IntKind.i64.wrap ((↑vl0.length : Int) + (↑(rsp_L2_v x0 x1 vi0 vl0).snd.length : Int)) > x1)) then (some (.inr (.inr 8))) else bif (decide (vl0.length + (rsp_L2_v x0 x1 vi0 vl0).snd.length ≤ 9223372036854775807 ∧ (vl0.length + (rsp_L2_v x0 x1 vi0 vl0).snd.length) * 1 ≤ 140737488355328)) then some (.inl (IntKind.i64.wrap (vi0 + (2 : Int)), vl0 ++ (rsp_L2_v x0 x1 vi0 vl0).snd)) else none else none else none) else some (.inr (.inl (vi0, vl0)))
noncomputable def rsp_L0_c : Code := loopC Try.prog 95 0
set_option maxRecDepth 100000 in
theorem rsp_L0_ok (x0 : List (List Ct)) (x1 : Int) : ∀ v, StepOk Try.prog 1 rsp_L0_c (rsp_L0_S x0 x1) (rsp_L0_T x0 x1) v (rsp_L0_step x0 x1 v) := fun v => match v with | (vi0, vl0) => eng_step (C := (⟨consPack, fun f id nx => bif Nat.beq f 95 then (bif Nat.beq id 2 then some (rsp_L2_lc x0 x1 vi0 vl0) else none) else none, fun f => false, noFacts, fun _ => 0⟩ : Cfg Try.prog)) noFacts_ok (n := 30) (f := 95) rsp_L0_rd (fun r => by cases r <;> rfl) (by kernel_rfl)
noncomputable def rsp_L0_p (x0 : List (List Ct)) (x1 : Int) : Bool := (iter (rsp_L0_step x0 x1) (x0.length + 1) (0, [])).isSome
noncomputable def rsp_L0_v (x0 : List (List Ct)) (x1 : Int) : (Int × List (List Ct)) ⊕ (Int) := (iter (rsp_L0_step x0 x1) (x0.length + 1) (0, [])).getD (.inl default)
set_option maxRecDepth 100000 in
noncomputable def rsp_L0_lc (x0 : List (List Ct)) (x1 : Int) : LoopCon Try.prog := loopCon2 Try.prog 1 rsp_L0_c [(1, none)] (rsp_L0_S x0 x1) (rsp_L0_T x0 x1) 0 (rsp_L0_step x0 x1) (rsp_L0_ok x0 x1) (x0.length + 1) (0, []) (rsp_L0_p x0 x1) rfl (rsp_L0_v x0 x1) rfl
noncomputable def rsp_O (v : Int × List (List Ct)) : Out := ⟨.tup [.one (.ext 1), .one (.val false (.int .i64 v.1))], [(1, .row ([Sh.int IntKind.u8]) 5 v.2)], 10, []⟩
noncomputable def rsp_rd (out : Out) : Option (Int × List (List Ct)) := some (rI (rvC out.v 1 0), hpL' out.up 1)
noncomputable def rsp_res (x0 : List (List Ct)) (x1 : Int) : Option (Int × List (List Ct)) := bif (rsp_L0_p x0 x1) then bif (isL (rsp_L0_v x0 x1)) then (some (0, (getL (rsp_L0_v x0 x1)).snd)) else some (getR (rsp_L0_v x0 x1), []) else none
set_option maxRecDepth 100000 in
theorem rsp_tree {x0 : List (List Ct)} {x1 : Int} {v : Int × List (List Ct)} (h : rsp_res x0 x1 = some v) : CallOk Try.prog 95 [.sv (.one (.ext 0)), .sv (.one (.val false (.int .i64 x1)))] [(0, .grid [.int .u8] x0)] 1 (rsp_O v) :=
  eng_treeN (C := (⟨consPack, fun f id nx => bif Nat.beq f 95 then (bif Nat.beq id 0 then some (rsp_L0_lc x0 x1) else none) else none, fun f => false, noFacts, fun _ => 0⟩ : Cfg Try.prog)) noFacts_ok (n := 30) (f := 95) rsp_O rsp_rd rfl (by kernel_rfl) h
noncomputable def rsp_v (x0 : List (List Ct)) (x1 : Int) : Int × List (List Ct) := (rsp_res x0 x1).getD default
theorem rsp_spec (x0 : List (List Ct)) (x1 : Int) (h : ((rsp_res x0 x1).isSome) = true) : rsp_res x0 x1 = some (rsp_v x0 x1) := opt_get h
noncomputable def rsp_m (args : List RV) (hp : Hp) : Option ((List (List Ct) × Int) × List Nat) := match args with
  | [.sv (.one (.ext i0)), .sv (.one (.val _ (.int .i64 x1)))] => (match gridAt hp i0 [.int .u8] with
    | some x0 => some ((x0, x1), [i0])
    | _ => none)
  | _ => none
noncomputable def rsp_con : Con Try.prog := conX Try.prog 95 rsp_m 1 (fun x => [.sv (.one (.ext 0)), .sv (.one (.val false (.int .i64 x.2)))]) (fun x => [(0, .grid [.int .u8] x.1)]) (fun x => some ((rsp_res x.1 x.2).isSome)) (fun x => rsp_O (rsp_v x.1 x.2))
  (by
    intro args hp x r h
    unfold rsp_m at h
    split at h
    · split at h
      · rename_i g0
        cases h
        refine ⟨rfl, fun nx => ⟨rfl, ?_, ?_⟩⟩
        · intro i hi
          simp only [List.mem_cons, List.not_mem_nil, or_false] at hi
          rcases hi with rfl
          · exact ⟨_, List.mem_of_getElem? (i := 0) rfl, .inl (by simp [RV.ids, SV.ids, CV.ids])⟩
        · intro id o0 ho
          have := hlook_mem ho
          simp only [List.mem_cons, Prod.mk.injEq, List.not_mem_nil, or_false] at this
          rcases this with ⟨rfl, rfl⟩
          · exact ⟨_, gridAt_spec g0, rfl⟩
      · cases h
    · cases h)
  (fun x h => ⟨rfl, rfl, rsp_tree (rsp_spec x.1 x.2 (h _ rfl))⟩)
noncomputable def consPack7 : List (Con Try.prog) := [rsp_con.freezeR.freezeO] ++ consPack6
end Go.Proofs.Ytcpbiijegbbafaa
