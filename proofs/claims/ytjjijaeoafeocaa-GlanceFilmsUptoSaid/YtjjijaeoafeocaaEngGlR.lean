/- A picture's lines, as the document has them. No condition. -/
import Derived.Test.YtjjijaeoafeocaaEngGlQ
set_option linter.unusedVariables false
set_option linter.unusedSimpArgs false
namespace Go.Proofs.Ytjjijaeoafeocaa
open Go.RowKit

noncomputable def rli_L2_S (x0_0 : Int) (x0_1 : Int) (x0_2 : List (List Ct)) (vi0 : Int) (vl0 : List (List Ct)) (v : Int × List (List Ct)) : St := ⟨[.sv (.agg [.q x0_0, .q x0_1, .ext 0]), .o (.ptr 1 0), .o (.val true (Value.slice none 0 0)), .o (.ext 2), .o (.q vi0), .o (.ext 4), .o (.q v.1), .o (.q vi0), .o (.ptr 1 1), .o (.q x0_1), .o (.val true (.bool true)), .d, .d, .d, .d, .d, .d, .d, .d, .d, .d, .d, .d, .d, .d, .d, .d, .d, .d, .d, .d, .d, .d, .d, .d, .d, .d, .d, .d], [(0, .grid ([Sh.int IntKind.u8, Sh.int IntKind.u8, Sh.int IntKind.u8]) x0_2), (1, .cells [.q x0_0, .q x0_1, .ext 0] 40), (2, .row ([Sh.str]) 9 vl0), (4, .row ([Sh.int IntKind.u8]) 5 v.2)], 5, []⟩
noncomputable def rli_L2_T (x0_0 : Int) (x0_1 : Int) (x0_2 : List (List Ct)) (vi0 : Int) (vl0 : List (List Ct)) (v : Int × List (List Ct)) : Ex × St := ((.exit 2), ⟨(rli_L2_S x0_0 x0_1 x0_2 vi0 vl0 v).fr, (rli_L2_S x0_0 x0_1 x0_2 vi0 vl0 v).hp, 6, []⟩)
noncomputable def rli_L2_rd (ex : Ex) (s : St) : Option ((Int × List (List Ct)) ⊕ (Int × List (List Ct))) × List (Nat × Option Nat) := match ex with
  | .normal => (some (.inl (rI (frC s 6 0), rL s (frC s 5 0))), [(1, some 1), (2, some 2), rnOf 4 (frC s 5 0)])
  | .exit i => bif Nat.beq i 2 then (some (.inr (rI (frC s 6 0), rL s (frC s 5 0))), [(1, some 1), (2, some 2), (4, some 4)]) else (none, [])
  | _ => (none, [])
noncomputable def rli_c13588972 (x0_0 : Int) (x0_2 : List (List Ct)) (vi0 : Int) (wi0 : Int) : Int := rlt_v (rd x0_2 (IntKind.i64.wrap (IntKind.i64.wrap (vi0 * x0_0) + wi0)).toNat 0).int (rd x0_2 (IntKind.i64.wrap (IntKind.i64.wrap (vi0 * x0_0) + wi0)).toNat 1).int (rd x0_2 (IntKind.i64.wrap (IntKind.i64.wrap (vi0 * x0_0) + wi0)).toNat 2).int
noncomputable def rli_L2_step (x0_0 : Int) (x0_2 : List (List Ct)) (vi0 : Int) : (Int × List (List Ct)) → Option ((Int × List (List Ct)) ⊕ (Int × List (List Ct))) := fun v => match v with
  | (wi0, wl0) => bif (decide (wi0 < x0_0)) then (bif (decide ((0 : Int) ≤ IntKind.i64.wrap (IntKind.i64.wrap (vi0 * x0_0) + wi0) ∧ IntKind.i64.wrap (IntKind.i64.wrap (vi0 * x0_0) + wi0) < (↑x0_2.length : Int))) then bif ((rlt_res (rd x0_2 (IntKind.i64.wrap (IntKind.i64.wrap (vi0 * x0_0) + wi0)).toNat 0).int (rd x0_2 (IntKind.i64.wrap (IntKind.i64.wrap (vi0 * x0_0) + wi0)).toNat 1).int (rd x0_2 (IntKind.i64.wrap (IntKind.i64.wrap (vi0 * x0_0) + wi0)).toNat 2).int).isSome) then bif (decide (wl0.length + [[Ct.i (rli_c13588972 x0_0 x0_2 vi0 wi0)]].length ≤ 9223372036854775807 ∧ (wl0.length + [[Ct.i (rli_c13588972 x0_0 x0_2 vi0 wi0)]].length) * 1 ≤ 140737488355328)) then some (.inl (IntKind.i64.wrap (wi0 + (1 : Int)), wl0 ++ [[Ct.i (rli_c13588972 x0_0 x0_2 vi0 wi0)]])) else none else none else none) else some (.inr (wi0, wl0))
noncomputable def rli_L2_c : Code := loopC Try.prog 16 2
set_option maxRecDepth 100000 in
theorem rli_L2_ok (x0_0 : Int) (x0_1 : Int) (x0_2 : List (List Ct)) (vi0 : Int) (vl0 : List (List Ct)) : ∀ v, StepOk Try.prog 1 rli_L2_c (rli_L2_S x0_0 x0_1 x0_2 vi0 vl0) (rli_L2_T x0_0 x0_1 x0_2 vi0 vl0) v (rli_L2_step x0_0 x0_2 vi0 v) := fun v => match v with | (wi0, wl0) => eng_step (C := (⟨consGlP, fun _ _ _ => none, fun f => false, noFacts, fun _ => 104⟩ : Cfg Try.prog)) noFacts_ok (n := 30) (f := 16) rli_L2_rd (fun _ => rfl) (by kernel_rfl)
noncomputable def rli_L2_p (x0_0 : Int) (x0_2 : List (List Ct)) (vi0 : Int) : Bool := (iter (rli_L2_step x0_0 x0_2 vi0) 5001 (0, [])).isSome
noncomputable def rli_L2_v (x0_0 : Int) (x0_2 : List (List Ct)) (vi0 : Int) : Int × List (List Ct) := loopRes (rli_L2_step x0_0 x0_2 vi0) 5001 (0, [])
set_option maxRecDepth 100000 in
noncomputable def rli_L2_lc (x0_0 : Int) (x0_1 : Int) (x0_2 : List (List Ct)) (vi0 : Int) (vl0 : List (List Ct)) : LoopCon Try.prog := loopCon Try.prog 1 rli_L2_c [(1, some 1), (2, some 2), (4, none)] (rli_L2_S x0_0 x0_1 x0_2 vi0 vl0) (rli_L2_T x0_0 x0_1 x0_2 vi0 vl0) 2 (rli_L2_step x0_0 x0_2 vi0) (rli_L2_ok x0_0 x0_1 x0_2 vi0 vl0) 5001 (0, []) (rli_L2_p x0_0 x0_2 vi0) rfl (rli_L2_v x0_0 x0_2 vi0) rfl
noncomputable def rli_L0_S (x0_0 : Int) (x0_1 : Int) (x0_2 : List (List Ct)) (v : Int × List (List Ct)) : St := ⟨[.sv (.agg [.q x0_0, .q x0_1, .ext 0]), .o (.ptr 1 0), .o (.val true (Value.slice none 0 0)), .o (.ext 2), .o (.q v.1), .d, .d, .d, .d, .d, .d, .d, .d, .d, .d, .d, .d, .d, .d, .d, .d, .d, .d, .d, .d, .d, .d, .d, .d, .d, .d, .d, .d, .d, .d, .d, .d, .d, .d], [(0, .grid ([Sh.int IntKind.u8, Sh.int IntKind.u8, Sh.int IntKind.u8]) x0_2), (1, .cells [.q x0_0, .q x0_1, .ext 0] 40), (2, .row ([Sh.str]) 9 v.2)], 3, []⟩
noncomputable def rli_L0_T (x0_0 : Int) (x0_1 : Int) (x0_2 : List (List Ct)) (v : Int × List (List Ct)) : Ex × St := ((.exit 0), ⟨(rli_L0_S x0_0 x0_1 x0_2 v).fr, (rli_L0_S x0_0 x0_1 x0_2 v).hp, 4, []⟩)
noncomputable def rli_L0_rd (ex : Ex) (s : St) : Option ((Int × List (List Ct)) ⊕ (Int × List (List Ct))) × List (Nat × Option Nat) := match ex with
  | .normal => (some (.inl (rI (frC s 4 0), rL s (frC s 3 0))), [(1, some 1), rnOf 2 (frC s 3 0)])
  | .exit i => bif Nat.beq i 0 then (some (.inr (rI (frC s 4 0), rL s (frC s 3 0))), [(1, some 1), (2, some 2)]) else (none, [])
  | _ => (none, [])
noncomputable def rli_L0_step (x0_0 : Int) (x0_1 : Int) (x0_2 : List (List Ct)) : (Int × List (List Ct)) → Option ((Int × List (List Ct)) ⊕ (Int × List (List Ct))) := fun v => match v with
  | (vi0, vl0) => bif (decide (vi0 < x0_1)) then (bif (rli_L2_p x0_0 x0_2 vi0) then bif true then bif (decide (vl0.length + [[Ct.s (strOf (rli_L2_v x0_0 x0_2 vi0).snd)]].length ≤ 9223372036854775807 ∧ (vl0.length + [[Ct.s (strOf (rli_L2_v x0_0 x0_2 vi0).snd)]].length) * 16 ≤ 140737488355328)) then some (.inl (IntKind.i64.wrap (vi0 + (1 : Int)), vl0 ++ [[Ct.s (strOf (rli_L2_v x0_0 x0_2 vi0).snd)]])) else none else none else none) else some (.inr (vi0, vl0))
noncomputable def rli_L0_c : Code := loopC Try.prog 16 0
set_option maxRecDepth 100000 in
theorem rli_L0_ok (x0_0 : Int) (x0_1 : Int) (x0_2 : List (List Ct)) : ∀ v, StepOk Try.prog 1 rli_L0_c (rli_L0_S x0_0 x0_1 x0_2) (rli_L0_T x0_0 x0_1 x0_2) v (rli_L0_step x0_0 x0_1 x0_2 v) := fun v => match v with | (vi0, vl0) => eng_step (C := (⟨consGlP, fun f id nx => bif Nat.beq f 16 then (bif Nat.beq id 2 then some (rli_L2_lc x0_0 x0_1 x0_2 vi0 vl0) else none) else none, fun f => false, noFacts, fun _ => 104⟩ : Cfg Try.prog)) noFacts_ok (n := 30) (f := 16) rli_L0_rd (fun _ => rfl) (by kernel_rfl)
noncomputable def rli_L0_p (x0_0 : Int) (x0_1 : Int) (x0_2 : List (List Ct)) : Bool := (iter (rli_L0_step x0_0 x0_1 x0_2) 5001 (0, [])).isSome
noncomputable def rli_L0_v (x0_0 : Int) (x0_1 : Int) (x0_2 : List (List Ct)) : Int × List (List Ct) := loopRes (rli_L0_step x0_0 x0_1 x0_2) 5001 (0, [])
set_option maxRecDepth 100000 in
noncomputable def rli_L0_lc (x0_0 : Int) (x0_1 : Int) (x0_2 : List (List Ct)) : LoopCon Try.prog := loopCon Try.prog 1 rli_L0_c [(1, some 1), (2, none)] (rli_L0_S x0_0 x0_1 x0_2) (rli_L0_T x0_0 x0_1 x0_2) 0 (rli_L0_step x0_0 x0_1 x0_2) (rli_L0_ok x0_0 x0_1 x0_2) 5001 (0, []) (rli_L0_p x0_0 x0_1 x0_2) rfl (rli_L0_v x0_0 x0_1 x0_2) rfl
noncomputable def rli_O (v : List (List Ct)) : Out := ⟨.sv (.one (.ext 2)), [(2, .row ([Sh.str]) 9 v)], 4, []⟩
noncomputable def rli_rd (out : Out) : Option (List (List Ct)) := some (hpL' out.up 2)
noncomputable def rli_res (x0_0 : Int) (x0_1 : Int) (x0_2 : List (List Ct)) : Option (List (List Ct)) := bif (rli_L0_p x0_0 x0_1 x0_2) then some ((rli_L0_v x0_0 x0_1 x0_2).snd) else none
set_option maxRecDepth 100000 in
theorem rli_tree {x0_0 : Int} {x0_1 : Int} {x0_2 : List (List Ct)} {v : List (List Ct)} (h : rli_res x0_0 x0_1 x0_2 = some v) : CallOk Try.prog 16 [.sv (.agg [.val false (.int .i64 x0_0), .val false (.int .i64 x0_1), .ext 0])] [(0, .grid [.int .u8, .int .u8, .int .u8] x0_2)] 1 (rli_O v) :=
  eng_tree (C := (⟨consGlP, fun f id nx => bif Nat.beq f 16 then (bif Nat.beq id 0 then some (rli_L0_lc x0_0 x0_1 x0_2) else none) else none, fun f => false, noFacts, fun _ => 104⟩ : Cfg Try.prog)) noFacts_ok (n := 30) (f := 16) rli_O rli_rd rfl (by kernel_rfl) h
noncomputable def rli_v (x0_0 : Int) (x0_1 : Int) (x0_2 : List (List Ct)) : List (List Ct) := (rli_res x0_0 x0_1 x0_2).getD default
theorem rli_spec (x0_0 : Int) (x0_1 : Int) (x0_2 : List (List Ct)) (h : ((rli_res x0_0 x0_1 x0_2).isSome) = true) : rli_res x0_0 x0_1 x0_2 = some (rli_v x0_0 x0_1 x0_2) := opt_get h
noncomputable def rli_m (args : List RV) (hp : Hp) : Option ((Int × Int × List (List Ct)) × List Nat) := match args with
  | [.sv (.agg [.val _ (.int .i64 x0_0), .val _ (.int .i64 x0_1), .ext i0])] => (match gridAt hp i0 [.int .u8, .int .u8, .int .u8] with
    | some x0_2 => some ((x0_0, x0_1, x0_2), [i0])
    | _ => none)
  | _ => none
noncomputable def rli_con : Con Try.prog := conX Try.prog 16 rli_m 1 (fun x => [.sv (.agg [.val false (.int .i64 x.1), .val false (.int .i64 x.2.1), .ext 0])]) (fun x => [(0, .grid [.int .u8, .int .u8, .int .u8] x.2.2)]) (fun x => some ((rli_res x.1 x.2.1 x.2.2).isSome)) (fun x => rli_O (rli_v x.1 x.2.1 x.2.2))
  (by
    intro args hp x r h
    unfold rli_m at h
    split at h
    · split at h
      · rename_i g0
        cases h
        refine ⟨rfl, fun nx => ⟨rfl, ?_, ?_⟩⟩
        · intro i hi
          simp only [List.mem_cons, List.not_mem_nil, or_false] at hi
          rcases hi with rfl
          · exact ⟨_, List.mem_of_getElem? (i := 0) rfl, .inl (by simp [RV.ids, SV.ids, CV.ids])⟩
        · intro id o0 ho
          have := hlook_mem ho
          simp only [List.mem_cons, Prod.mk.injEq, List.not_mem_nil, or_false] at this
          rcases this with ⟨rfl, rfl⟩
          · exact ⟨_, gridAt_spec g0, rfl⟩
      · cases h
    · cases h)
  (fun x h => ⟨rfl, rfl, rli_tree (rli_spec x.1 x.2.1 x.2.2 (h _ rfl))⟩)
noncomputable def consGlR : List (Con Try.prog) := [rli_con] ++ consGlQ
end Go.Proofs.Ytjjijaeoafeocaa
