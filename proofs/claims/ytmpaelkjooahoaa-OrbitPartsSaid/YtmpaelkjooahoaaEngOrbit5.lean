/- Tracks that are made. No condition. -/
import Derived.Test.YtmpaelkjooahoaaEngOrbit4
set_option linter.unusedVariables false
set_option linter.unusedSimpArgs false
namespace Go.Proofs.Ytmpaelkjooahoaa
open Go.RowKit

noncomputable def tmk_L0_S (x0 : Int) (x1 : List (List Ct)) (v : Int × List (List Ct)) : St := ⟨[.o (.q x0), .o (.ext 0), .d, .d, .o (.ptr 1 0), .o (.val true (.int .i64 0)), .o (.ext 3), .o (.ptr 7 0), .d, .d, .o (.ext 0), .o (.ext 3), .o (.ext 3), .d, .o (.q x0), .sv (.agg [.q x0, .val true (Value.slice none 0 0)]), .o (.ext 3), .o (.q (↑(stb_v ([] ++ x1) (↑([] ++ x1).length : Int)).length : Int)), .o (.q v.1), .d, .d, .d, .d, .d, .d, .d, .d, .d, .d, .d, .d, .d, .d, .d, .d, .d, .d, .d, .d, .d, .d, .d, .d, .d, .d, .d, .d, .d, .d, .d, .d], [(0, .grid ([Sh.int IntKind.i64, Sh.int IntKind.i64, Sh.int IntKind.i64, Sh.int IntKind.i64]) x1), (1, .cells [.val true (.int .i64 0), .val true (Value.slice none 0 0)] 33), (3, .row ([Sh.int IntKind.i64, Sh.int IntKind.i64, Sh.int IntKind.i64, Sh.int IntKind.i64]) 86 (stb_v ([] ++ x1) (↑([] ++ x1).length : Int))), (7, .cells [.q x0, .ext 8] 33), (8, .row ([Sh.int IntKind.i64, Sh.int IntKind.i64, Sh.int IntKind.i64, Sh.int IntKind.i64]) 86 v.2)], 9, []⟩
noncomputable def tmk_L0_T (x0 : Int) (x1 : List (List Ct)) (v : Int × List (List Ct)) : Ex × St := ((.exit 0), ⟨(tmk_L0_S x0 x1 v).fr, (tmk_L0_S x0 x1 v).hp, 10, []⟩)
noncomputable def tmk_L0_rd (ex : Ex) (s : St) : Option ((Int × List (List Ct)) ⊕ (Int × List (List Ct))) × List (Nat × Option Nat) := match ex with
  | .normal => (some (.inl (rI (frC s 18 0), rL s (hpC s 7 1))), [(1, some 1), (3, some 3), (7, some 7), rnOf 8 (hpC s 7 1)])
  | .exit i => bif Nat.beq i 0 then (some (.inr (rI (frC s 18 0), rL s (hpC s 7 1))), [(1, some 1), (3, some 3), (7, some 7), (8, some 8)]) else (none, [])
  | _ => (none, [])
noncomputable def tmk_L0_step (x1 : List (List Ct)) : (Int × List (List Ct)) → Option ((Int × List (List Ct)) ⊕ (Int × List (List Ct))) := fun v => match v with
  | (vi0, vl0) => bif (decide (vi0 < (↑(stb_v ([] ++ x1) (↑([] ++ x1).length : Int)).length : Int))) then (bif (decide ((0 : Int) ≤ vi0 ∧ vi0 < (↑(stb_v ([] ++ x1) (↑([] ++ x1).length : Int)).length : Int))) then bif (decide (IntKind.i64.wrap (vi0 + (1 : Int)) < (↑(stb_v ([] ++ x1) (↑([] ++ x1).length : Int)).length : Int))) then (bif (decide ((0 : Int) ≤ IntKind.i64.wrap (vi0 + (1 : Int)) ∧ IntKind.i64.wrap (vi0 + (1 : Int)) < (↑(stb_v ([] ++ x1) (↑([] ++ x1).length : Int)).length : Int))) then bif ((rd (stb_v ([] ++ x1) (↑([] ++ x1).length : Int)) (IntKind.i64.wrap (vi0 + (1 : Int))).toNat 0).int == (rd (stb_v ([] ++ x1) (↑([] ++ x1).length : Int)) vi0.toNat 0).int) then (some (.inl (IntKind.i64.wrap (vi0 + (1 : Int)), vl0))) else bif (decide (vl0.length + [[Ct.i (rd (stb_v ([] ++ x1) (↑([] ++ x1).length : Int)) vi0.toNat 0).int, Ct.i (rd (stb_v ([] ++ x1) (↑([] ++ x1).length : Int)) vi0.toNat 1).int, Ct.i (rd (stb_v ([] ++ x1) (↑([] ++ x1).length : Int)) vi0.toNat 2).int, Ct.i (rd (stb_v ([] ++ x1) (↑([] ++ x1).length : Int)) vi0.toNat 3).int]].length ≤ 9223372036854775807 ∧ (vl0.length + [[Ct.i (rd (stb_v ([] ++ x1) (↑([] ++ x1).length : Int)) vi0.toNat 0).int, Ct.i (rd (stb_v ([] ++ x1) (↑([] ++ x1).length : Int)) vi0.toNat 1).int, Ct.i (rd (stb_v ([] ++ x1) (↑([] ++ x1).length : Int)) vi0.toNat 2).int, Ct.i (rd (stb_v ([] ++ x1) (↑([] ++ x1).length : Int)) vi0.toNat 3).int]].length) * 32 ≤ 140737488355328)) then some (.inl (IntKind.i64.wrap (vi0 + (1 : Int)), vl0 ++ [[Ct.i (rd (stb_v ([] ++ x1) (↑([] ++ x1).length : Int)) vi0.toNat 0).int, Ct.i (rd (stb_v ([] ++ x1) (↑([] ++ x1).length : Int)) vi0.toNat 1).int, Ct.i (rd (stb_v ([] ++ x1) (↑([] ++ x1).length : Int)) vi0.toNat 2).int, Ct.i (rd (stb_v ([] ++ x1) (↑([] ++ x1).length : Int)) vi0.toNat 3).int]])) else none else none) else bif (decide (vl0.length + [[Ct.i (rd (stb_v ([] ++ x1) (↑([] ++ x1).length : Int)) vi0.toNat 0).int, Ct.i (rd (stb_v ([] ++ x1) (↑([] ++ x1).length : Int)) vi0.toNat 1).int, Ct.i (rd (stb_v ([] ++ x1) (↑([] ++ x1).length : Int)) vi0.toNat 2).int, Ct.i (rd (stb_v ([] ++ x1) (↑([] ++ x1).length : Int)) vi0.toNat 3).int]].length ≤ 9223372036854775807 ∧ (vl0.length + [[Ct.i (rd (stb_v ([] ++ x1) (↑([] ++ x1).length : Int)) vi0.toNat 0).int, Ct.i (rd (stb_v ([] ++ x1) (↑([] ++ x1).length : Int)) vi0.toNat 1).int, Ct.i (rd (stb_v ([] ++ x1) (↑([] ++ x1).length : Int)) vi0.toNat 2).int, Ct.i (rd (stb_v ([] ++ x1) (↑([] ++ x1).length : Int)) vi0.toNat 3).int]].length) * 32 ≤ 140737488355328)) then some (.inl (IntKind.i64.wrap (vi0 + (1 : Int)), vl0 ++ [[Ct.i (rd (stb_v ([] ++ x1) (↑([] ++ x1).length : Int)) vi0.toNat 0).int, Ct.i (rd (stb_v ([] ++ x1) (↑([] ++ x1).length : Int)) vi0.toNat 1).int, Ct.i (rd (stb_v ([] ++ x1) (↑([] ++ x1).length : Int)) vi0.toNat 2).int, Ct.i (rd (stb_v ([] ++ x1) (↑([] ++ x1).length : Int)) vi0.toNat 3).int]])) else none else none) else some (.inr (vi0, vl0))
noncomputable def tmk_L0_c : Code := loopC Try.prog 53 0
set_option maxRecDepth 100000 in
theorem tmk_L0_ok (x0 : Int) (x1 : List (List Ct)) : ∀ v, StepOk Try.prog 1 tmk_L0_c (tmk_L0_S x0 x1) (tmk_L0_T x0 x1) v (tmk_L0_step x1 v) := fun v => match v with | (vi0, vl0) => eng_step (C := (⟨consOrbit4, fun _ _ _ => none, fun f => false, noFacts, fun _ => 0⟩ : Cfg Try.prog)) noFacts_ok (n := 30) (f := 53) tmk_L0_rd (fun _ => rfl) (by kernel_rfl)
noncomputable def tmk_L0_p (x1 : List (List Ct)) : Bool := (iter (tmk_L0_step x1) (x1.length + 1) (0, [])).isSome
noncomputable def tmk_L0_v (x1 : List (List Ct)) : Int × List (List Ct) := loopRes (tmk_L0_step x1) (x1.length + 1) (0, [])
set_option maxRecDepth 100000 in
noncomputable def tmk_L0_lc (x0 : Int) (x1 : List (List Ct)) : LoopCon Try.prog := loopCon Try.prog 1 tmk_L0_c [(1, some 1), (3, some 3), (7, some 7), (8, none)] (tmk_L0_S x0 x1) (tmk_L0_T x0 x1) 0 (tmk_L0_step x1) (tmk_L0_ok x0 x1) (x1.length + 1) (0, []) (tmk_L0_p x1) rfl (tmk_L0_v x1) rfl
noncomputable def tmk_O (v : Int × Int × List (List Ct)) : Out := ⟨.tup [.agg [.val false (.int .i64 v.1), .ext 8], .one (.val false (.int .i64 v.2.1))], [(8, .row ([Sh.int IntKind.i64, Sh.int IntKind.i64, Sh.int IntKind.i64, Sh.int IntKind.i64]) 86 v.2.2)], 33, []⟩
noncomputable def tmk_rd (out : Out) : Option (Int × Int × List (List Ct)) := some (rI (rvC out.v 0 0), rI (rvC out.v 1 0), hpL' out.up 8)
noncomputable def tmk_res (x0 : Int) (x1 : List (List Ct)) : Option (Int × Int × List (List Ct)) := bif (decide (0 < x1.length)) then bif (decide (0 + x1.length ≤ 9223372036854775807 ∧ (0 + x1.length) * 32 ≤ 140737488355328)) then bif ((stb_res ([] ++ x1) (↑([] ++ x1).length : Int)).isSome) then bif (tmk_L0_p x1) then bif ((trt_res x0 (tmk_L0_v x1).snd).isSome) then bif (!trt_v x0 (tmk_L0_v x1).snd) then (some (0, 23, [])) else some (x0, 0, (tmk_L0_v x1).snd) else none else none else none else none else none
set_option maxRecDepth 100000 in
theorem tmk_tree {x0 : Int} {x1 : List (List Ct)} {v : Int × Int × List (List Ct)} (h : tmk_res x0 x1 = some v) : CallOk Try.prog 53 [.sv (.one (.val false (.int .i64 x0))), .sv (.one (.ext 0))] [(0, .grid [.int .i64, .int .i64, .int .i64, .int .i64] x1)] 1 (tmk_O v) :=
  eng_treeN (C := (⟨consOrbit4, fun f id nx => bif Nat.beq f 53 then (bif Nat.beq id 0 then some (tmk_L0_lc x0 x1) else none) else none, fun f => false, noFacts, fun _ => 0⟩ : Cfg Try.prog)) noFacts_ok (n := 30) (f := 53) tmk_O tmk_rd rfl (by kernel_rfl) h
noncomputable def tmk_v (x0 : Int) (x1 : List (List Ct)) : Int × Int × List (List Ct) := (tmk_res x0 x1).getD default
theorem tmk_spec (x0 : Int) (x1 : List (List Ct)) (h : ((tmk_res x0 x1).isSome) = true) : tmk_res x0 x1 = some (tmk_v x0 x1) := opt_get h
noncomputable def tmk_m (args : List RV) (hp : Hp) : Option ((Int × List (List Ct)) × List Nat) := match args with
  | [.sv (.one (.val _ (.int .i64 x0))), .sv (.one (.ext i0))] => (match gridAt hp i0 [.int .i64, .int .i64, .int .i64, .int .i64] with
    | some x1 => some ((x0, x1), [i0])
    | _ => none)
  | _ => none
noncomputable def tmk_con : Con Try.prog := conX Try.prog 53 tmk_m 1 (fun x => [.sv (.one (.val false (.int .i64 x.1))), .sv (.one (.ext 0))]) (fun x => [(0, .grid [.int .i64, .int .i64, .int .i64, .int .i64] x.2)]) (fun x => some ((tmk_res x.1 x.2).isSome)) (fun x => tmk_O (tmk_v x.1 x.2))
  (by
    intro args hp x r h
    unfold tmk_m at h
    split at h
    · split at h
      · rename_i g0
        cases h
        refine ⟨rfl, fun nx => ⟨rfl, ?_, ?_⟩⟩
        · intro i hi
          simp only [List.mem_cons, List.not_mem_nil, or_false] at hi
          rcases hi with rfl
          · exact ⟨_, List.mem_of_getElem? (i := 1) rfl, .inl (by simp [RV.ids, SV.ids, CV.ids])⟩
        · intro id o0 ho
          have := hlook_mem ho
          simp only [List.mem_cons, Prod.mk.injEq, List.not_mem_nil, or_false] at this
          rcases this with ⟨rfl, rfl⟩
          · exact ⟨_, gridAt_spec g0, rfl⟩
      · cases h
    · cases h)
  (fun x h => ⟨rfl, rfl, tmk_tree (tmk_spec x.1 x.2 (h _ rfl))⟩)
noncomputable def consOrbit5 : List (Con Try.prog) := [tmk_con.freezeR.freezeO] ++ consOrbit4
end Go.Proofs.Ytmpaelkjooahoaa
