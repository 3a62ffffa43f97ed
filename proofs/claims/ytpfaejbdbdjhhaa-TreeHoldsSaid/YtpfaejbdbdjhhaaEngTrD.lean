/- Trees that are made, by definition. No condition. -/
import Derived.Test.YtpfaejbdbdjhhaaEngTrK
set_option linter.unusedVariables false
set_option linter.unusedSimpArgs false
namespace Go.Proofs.Ytpfaejbdbdjhhaa
open Go.RowKit

noncomputable def rma_L0_S (x0 : List (List Ct)) (v : Int × List (List Ct)) : St := ⟨[.o (.ext 0), .d, .o (.ptr 1 0), .o (.ext 4), .o (.q v.1), .o (.ext 0), .o (.q (↑x0.length : Int)), .o (.val false (.bool ((↑x0.length : Int) == (0 : Int)))), .o (.val true (.bool false)), .o (.ext 0), .o (.q (↑x0.length : Int)), .o (.val false (.bool (decide ((↑x0.length : Int) > (128 : Int))))), .o (.val true (.bool false)), .d, .d, .d, .d, .d, .d, .d, .d, .d, .d, .d, .d, .d, .d, .d], [(0, .grid ([Sh.int IntKind.i64, Sh.int IntKind.i64, Sh.int IntKind.i64, Sh.int IntKind.i64, Sh.int IntKind.i64, Sh.int IntKind.i64, Sh.int IntKind.i64, Sh.int IntKind.i64, Sh.int IntKind.i64, Sh.int IntKind.i64, Sh.int IntKind.i64, Sh.int IntKind.i64]) x0), (1, .cells [.val true (Value.slice none 0 0), .val true (Value.slice none 0 0)] 33), (4, .row ([Sh.int IntKind.i64]) 3 v.2)], 5, []⟩
noncomputable def rma_L0_T (x0 : List (List Ct)) (v : Int × List (List Ct)) : Ex × St := ((.exit 0), ⟨(rma_L0_S x0 v).fr, (rma_L0_S x0 v).hp, 6, []⟩)
noncomputable def rma_L0_rd (ex : Ex) (s : St) : Option ((Int × List (List Ct)) ⊕ (Int × List (List Ct))) × List (Nat × Option Nat) := match ex with
  | .normal => (some (.inl (rI (frC s 4 0), rL s (frC s 3 0))), [(1, some 1), rnOf 4 (frC s 3 0)])
  | .exit i => bif Nat.beq i 0 then (some (.inr (rI (frC s 4 0), rL s (frC s 3 0))), [(1, some 1), (4, some 4)]) else (none, [])
  | _ => (none, [])
noncomputable def rma_L0_step (x0 : List (List Ct)) : (Int × List (List Ct)) → Option ((Int × List (List Ct)) ⊕ (Int × List (List Ct))) := fun v => match v with
  | (vi0, vl0) => bif (decide (vi0 < (↑x0.length : Int))) then (bif (decide (vl0.length + [[Ct.i vi0]].length ≤ 9223372036854775807 ∧ (vl0.length + [[Ct.i vi0]].length) * 8 ≤ 140737488355328)) then some (.inl (IntKind.i64.wrap (vi0 + (1 : Int)), vl0 ++ [[Ct.i vi0]])) else none) else some (.inr (vi0, vl0))
noncomputable def rma_L0_c : Code := loopC Try.prog 8 0
set_option maxRecDepth 100000 in
theorem rma_L0_ok (x0 : List (List Ct)) : ∀ v, StepOk Try.prog 1 rma_L0_c (rma_L0_S x0) (rma_L0_T x0) v (rma_L0_step x0 v) := fun v => match v with | (vi0, vl0) => eng_step (C := (⟨consTrK, fun _ _ _ => none, fun f => false, noFacts, fun _ => 0⟩ : Cfg Try.prog)) noFacts_ok (n := 30) (f := 8) rma_L0_rd (fun _ => rfl) (by kernel_rfl)
noncomputable def rma_L0_p (x0 : List (List Ct)) : Bool := (iter (rma_L0_step x0) (x0.length + 1) (0, [])).isSome
noncomputable def rma_L0_v (x0 : List (List Ct)) : Int × List (List Ct) := loopRes (rma_L0_step x0) (x0.length + 1) (0, [])
set_option maxRecDepth 100000 in
noncomputable def rma_L0_lc (x0 : List (List Ct)) : LoopCon Try.prog := loopCon Try.prog 1 rma_L0_c [(1, some 1), (4, none)] (rma_L0_S x0) (rma_L0_T x0) 0 (rma_L0_step x0) (rma_L0_ok x0) (x0.length + 1) (0, []) (rma_L0_p x0) rfl (rma_L0_v x0) rfl
noncomputable def rma_O (v : List (List Ct) × List (List Ct)) : Out := ⟨.sv (.agg [.ext 24, .ext 28]), [(28, .row ([Sh.int IntKind.i64]) 3 v.2), (24, .row ([Sh.int IntKind.i64, Sh.int IntKind.i64, Sh.int IntKind.i64, Sh.int IntKind.i64, Sh.int IntKind.i64, Sh.int IntKind.i64, Sh.int IntKind.i64, Sh.int IntKind.i64, Sh.int IntKind.i64, Sh.int IntKind.i64, Sh.int IntKind.i64, Sh.int IntKind.i64, Sh.int IntKind.i64, Sh.int IntKind.i64, Sh.int IntKind.i64, Sh.int IntKind.i64]) 53 v.1)], 81, []⟩
noncomputable def rma_rd (out : Out) : Option (List (List Ct) × List (List Ct)) := some (hpL' out.up 24, hpL' out.up 28)
noncomputable def rma_c27462395 (x0 : List (List Ct)) : List (List Ct) × List (List Ct) := rnn_v x0 (rma_L0_v x0).snd
noncomputable def rma_res (x0 : List (List Ct)) : Option (List (List Ct) × List (List Ct)) := bif ((↑x0.length : Int) == (0 : Int)) then (some ([], [])) else bif (decide ((↑x0.length : Int) > (128 : Int))) then (some ([], [])) else bif (rma_L0_p x0) then bif ((rnn_res x0 (rma_L0_v x0).snd).isSome) then some ((rma_c27462395 x0).fst, (rma_c27462395 x0).snd) else none else none
set_option maxRecDepth 100000 in
theorem rma_tree {x0 : List (List Ct)} {v : List (List Ct) × List (List Ct)} (h : rma_res x0 = some v) : CallOk Try.prog 8 [.sv (.one (.ext 0))] [(0, .grid [.int .i64, .int .i64, .int .i64, .int .i64, .int .i64, .int .i64, .int .i64, .int .i64, .int .i64, .int .i64, .int .i64, .int .i64] x0)] 1 (rma_O v) :=
  eng_treeN (C := (⟨consTrK, fun f id nx => bif Nat.beq f 8 then (bif Nat.beq id 0 then some (rma_L0_lc x0) else none) else none, fun f => false, noFacts, fun _ => 0⟩ : Cfg Try.prog)) noFacts_ok (n := 30) (f := 8) rma_O rma_rd rfl (by kernel_rfl) h
noncomputable def rma_v (x0 : List (List Ct)) : List (List Ct) × List (List Ct) := (rma_res x0).getD default
theorem rma_spec (x0 : List (List Ct)) (h : ((rma_res x0).isSome) = true) : rma_res x0 = some (rma_v x0) := opt_get h
noncomputable def rma_m (args : List RV) (hp : Hp) : Option ((List (List Ct)) × List Nat) := match args with
  | [.sv (.one (.ext i0))] => (match gridAt hp i0 [.int .i64, .int .i64, .int .i64, .int .i64, .int .i64, .int .i64, .int .i64, .int .i64, .int .i64, .int .i64, .int .i64, .int .i64] with
    | some x0 => some (x0, [i0])
    | _ => none)
  | _ => none
noncomputable def rma_con : Con Try.prog := conX Try.prog 8 rma_m 1 (fun x => [.sv (.one (.ext 0))]) (fun x => [(0, .grid [.int .i64, .int .i64, .int .i64, .int .i64, .int .i64, .int .i64, .int .i64, .int .i64, .int .i64, .int .i64, .int .i64, .int .i64] x)]) (fun x => some ((rma_res x).isSome)) (fun x => rma_O (rma_v x))
  (by
    intro args hp x r h
    unfold rma_m at h
    split at h
    · split at h
      · rename_i g0
        cases h
        refine ⟨rfl, fun nx => ⟨rfl, ?_, ?_⟩⟩
        · intro i hi
          simp only [List.mem_cons, List.not_mem_nil, or_false] at hi
          rcases hi with rfl
          · exact ⟨_, List.mem_of_getElem? (i := 0) rfl, .inl (by simp [RV.ids, SV.ids, CV.ids])⟩
        · intro id o0 ho
          have := hlook_mem ho
          simp only [List.mem_cons, Prod.mk.injEq, List.not_mem_nil, or_false] at this
          rcases this with ⟨rfl, rfl⟩
          · exact ⟨_, gridAt_spec g0, rfl⟩
      · cases h
    · cases h)
  (fun x h => ⟨rfl, rfl, rma_tree (rma_spec x (h _ rfl))⟩)
noncomputable def consTrD : List (Con Try.prog) := [rma_con.freezeR] ++ consTrK
end Go.Proofs.Ytpfaejbdbdjhhaa
