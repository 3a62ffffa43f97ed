/- Numbers that are laid, as the document has it. No condition. -/
import Derived.Test.YtcpbiijegbbafaaEngReelV
set_option linter.unusedVariables false
set_option linter.unusedSimpArgs false
namespace Go.Proofs.Ytcpbiijegbbafaa
open Go.RowKit

noncomputable def rnm_L0_S (x0 : List (List Ct)) (x1 : Int) (x2 : Int) (v : Int × Int × List (List Ct)) : St := ⟨[.o (.ext 0), .o (.val false (.int .u64 v.1)), .o (.q x2), .d, .d, .d, .o (.val true (Value.slice none 0 0)), .o (.ext 2), .o (.q v.2.1), .o (.ext 1), .o (.ext 0), .d, .d, .d, .d, .d, .d, .d, .d, .d, .d, .d, .d, .d, .d, .d], [(0, .grid ([Sh.int IntKind.u8]) x0), (1, .gone), (2, .row ([Sh.int IntKind.u8]) 5 v.2.2)], 3, []⟩
noncomputable def rnm_L0_T (x0 : List (List Ct)) (x1 : Int) (x2 : Int) (v : Int × Int × List (List Ct)) : Ex × St := ((.exit 0), ⟨(rnm_L0_S x0 x1 x2 v).fr, (rnm_L0_S x0 x1 x2 v).hp, 4, []⟩)
noncomputable def rnm_L0_rd (ex : Ex) (s : St) : Option ((Int × Int × List (List Ct)) ⊕ (Int × Int × List (List Ct))) × List (Nat × Option Nat) := match ex with
  | .normal => (some (.inl (rI (frC s 1 0), rI (frC s 8 0), rL s (frC s 7 0))), [(1, some 1), rnOf 2 (frC s 7 0)])
  | .exit i => bif Nat.beq i 0 then (some (.inr (rI (frC s 1 0), rI (frC s 8 0), rL s (frC s 7 0))), [(1, some 1), (2, some 2)]) else (none, [])
  | _ => (none, [])
noncomputable def rnm_L0_step (x2 : Int) : (Int × Int × List (List Ct)) → Option ((Int × Int × List (List Ct)) ⊕ (Int × Int × List (List Ct))) := fun v => match v with
  | (vi0, vi1, vl0) => bif (decide (vi1 < x2)) then (bif (decide (vl0.length + [[Ct.i (IntKind.u8.wrap (vi0.tmod (256 : Int)))]].length ≤ 9223372036854775807 ∧ (vl0.length + [[Ct.i (IntKind.u8.wrap (vi0.tmod (256 : Int)))]].length) * 1 ≤ 140737488355328)) then some (.inl (IntKind.u64.wrap (vi0.tdiv (256 : Int)), IntKind.i64.wrap (vi1 + (1 : Int)), vl0 ++ [[Ct.i (IntKind.u8.wrap (vi0.tmod (256 : Int)))]])) else none) else some (.inr (vi0, vi1, vl0))
noncomputable def rnm_L0_c : Code := loopC Try.prog 66 0
set_option maxRecDepth 100000 in
theorem rnm_L0_ok (x0 : List (List Ct)) (x1 : Int) (x2 : Int) : ∀ v, StepOk Try.prog 1 rnm_L0_c (rnm_L0_S x0 x1 x2) (rnm_L0_T x0 x1 x2) v (rnm_L0_step x2 v) := fun v => match v with | (vi0, vi1, vl0) => eng_step (C := (⟨consReelV, fun _ _ _ => none, fun f => ⟨false, true⟩, noFacts, fun _ => 0⟩ : Cfg Try.prog)) noFacts_ok (n := 30) (f := 66) rnm_L0_rd (fun _ => rfl) (by kernel_rfl)
noncomputable def rnm_L0_p (x0 : List (List Ct)) (x1 : Int) (x2 : Int) : Bool := (iter (rnm_L0_step x2) (x2.toNat + 1) (x1, 0, ([] ++ x0))).isSome
noncomputable def rnm_L0_v (x0 : List (List Ct)) (x1 : Int) (x2 : Int) : Int × Int × List (List Ct) := loopRes (rnm_L0_step x2) (x2.toNat + 1) (x1, 0, ([] ++ x0))
noncomputable def rnm_L0_lc (x0 : List (List Ct)) (x1 : Int) (x2 : Int) : LoopCon Try.prog := loopCon Try.prog 1 rnm_L0_c [(1, some 1), (2, some 2)] (rnm_L0_S x0 x1 x2) (rnm_L0_T x0 x1 x2) 0 (rnm_L0_step x2) (rnm_L0_ok x0 x1 x2) (x2.toNat + 1) (x1, 0, ([] ++ x0)) (rnm_L0_p x0 x1 x2) rfl (rnm_L0_v x0 x1 x2) rfl
noncomputable def rnm_O (v : List (List Ct)) : Out := ⟨.sv (.one (.ext 2)), [(2, .row ([Sh.int IntKind.u8]) 5 v)], 4, []⟩
noncomputable def rnm_rd (out : Out) : Option (List (List Ct)) := some (hpL' out.up 2)
noncomputable def rnm_res (x0 : List (List Ct)) (x1 : Int) (x2 : Int) : Option (List (List Ct)) := bif (decide (0 + x0.length ≤ 9223372036854775807 ∧ (0 + x0.length) * 1 ≤ 140737488355328)) then bif (rnm_L0_p x0 x1 x2) then some ((rnm_L0_v x0 x1 x2).snd.snd) else none else none
set_option maxRecDepth 100000 in
theorem rnm_tree {x0 : List (List Ct)} {x1 : Int} {x2 : Int} {v : List (List Ct)} (h : rnm_res x0 x1 x2 = some v) : CallOk Try.prog 66 [.sv (.one (.ext 0)), .sv (.one (.val false (.int .u64 x1))), .sv (.one (.val false (.int .i64 x2)))] [(0, .grid [.int .u8] x0)] 1 (rnm_O v) :=
  eng_tree (C := (⟨consReelV, fun f id nx => bif Nat.beq f 66 then (bif Nat.beq id 0 then some (rnm_L0_lc x0 x1 x2) else none) else none, fun f => ⟨false, true⟩, noFacts, fun _ => 0⟩ : Cfg Try.prog)) noFacts_ok (n := 30) (f := 66) rnm_O rnm_rd rfl (by kernel_rfl) h
noncomputable def rnm_v (x0 : List (List Ct)) (x1 : Int) (x2 : Int) : List (List Ct) := (rnm_res x0 x1 x2).getD default
theorem rnm_spec (x0 : List (List Ct)) (x1 : Int) (x2 : Int) (h : ((rnm_res x0 x1 x2).isSome) = true) : rnm_res x0 x1 x2 = some (rnm_v x0 x1 x2) := opt_get h
noncomputable def rnm_m (args : List RV) (hp : Hp) : Option ((List (List Ct) × Int × Int) × List Nat) := match args with
  | [.sv (.one (.ext i0)), .sv (.one (.val _ (.int .u64 x1))), .sv (.one (.val _ (.int .i64 x2)))] => (match gridAt hp i0 [.int .u8] with
    | some x0 => some ((x0, x1, x2), [i0])
    | _ => none)
  | _ => none
noncomputable def rnm_con : Con Try.prog := conX Try.prog 66 rnm_m 1 (fun x => [.sv (.one (.ext 0)), .sv (.one (.val false (.int .u64 x.2.1))), .sv (.one (.val false (.int .i64 x.2.2)))]) (fun x => [(0, .grid [.int .u8] x.1)]) (fun x => some ((rnm_res x.1 x.2.1 x.2.2).isSome)) (fun x => rnm_O (rnm_v x.1 x.2.1 x.2.2))
  (by
    intro args hp x r h
    unfold rnm_m at h
    split at h
    · split at h
      · rename_i g0
        cases h
        refine ⟨rfl, fun nx => ⟨rfl, ?_, ?_⟩⟩
        · intro i hi
          simp only [List.mem_cons, List.not_mem_nil, or_false] at hi
          rcases hi with rfl
          · exact ⟨_, List.mem_of_getElem? (i := 0) rfl, .inl (by simp [RV.ids, SV.ids, CV.ids])⟩
        · intro id o0 ho
          have := hlook_mem ho
          simp only [List.mem_cons, Prod.mk.injEq, List.not_mem_nil, or_false] at this
          rcases this with ⟨rfl, rfl⟩
          · exact ⟨_, gridAt_spec g0, rfl⟩
      · cases h
    · cases h)
  (fun x h => ⟨rfl, rfl, rnm_tree (rnm_spec x.1 x.2.1 x.2.2 (h _ rfl))⟩)
noncomputable def consJob3N : List (Con Try.prog) := [rnm_con.freezeR] ++ consReelV
end Go.Proofs.Ytcpbiijegbbafaa
