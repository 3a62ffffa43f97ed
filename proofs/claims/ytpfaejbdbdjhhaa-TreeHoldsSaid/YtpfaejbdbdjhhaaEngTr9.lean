/- What is around some shapes, by definition. No condition. -/
import Derived.Test.YtpfaejbdbdjhhaaEngTr8
set_option linter.unusedVariables false
set_option linter.unusedSimpArgs false
namespace Go.Proofs.Ytpfaejbdbdjhhaa
open Go.RowKit

noncomputable def rbt_L0_S (x0 : List (List Ct)) (x1 : List (List Ct)) (v : Int × List (List Ct)) : St := ⟨[.o (.ext 0), .o (.ext 1), .d, .d, .o (.ptr 2 0), .o (.ext 3), .o (.q v.1), .d, .d, .d, .d, .d, .d, .d, .d, .d, .d, .d, .d, .d, .d, .d, .d, .d, .d], [(0, .grid ([Sh.int IntKind.i64, Sh.int IntKind.i64, Sh.int IntKind.i64, Sh.int IntKind.i64, Sh.int IntKind.i64, Sh.int IntKind.i64, Sh.int IntKind.i64, Sh.int IntKind.i64, Sh.int IntKind.i64, Sh.int IntKind.i64, Sh.int IntKind.i64, Sh.int IntKind.i64]) x0), (1, .grid ([Sh.int IntKind.i64]) x1), (2, .cells [.val true (.int .i64 0), .val true (.int .i64 0), .val true (.int .i64 0), .val true (.int .i64 0), .val true (.int .i64 0), .val true (.int .i64 0), .val true (.int .i64 0), .val true (.int .i64 0), .val true (.int .i64 0), .val true (.int .i64 0), .val true (.int .i64 0), .val true (.int .i64 0)] 51), (3, .row ([Sh.int IntKind.i64, Sh.int IntKind.i64, Sh.int IntKind.i64, Sh.int IntKind.i64, Sh.int IntKind.i64, Sh.int IntKind.i64, Sh.int IntKind.i64, Sh.int IntKind.i64, Sh.int IntKind.i64, Sh.int IntKind.i64, Sh.int IntKind.i64, Sh.int IntKind.i64]) 51 v.2)], 4, []⟩
noncomputable def rbt_L0_T (x0 : List (List Ct)) (x1 : List (List Ct)) (v : Int × List (List Ct)) : Ex × St := ((.exit 0), ⟨(rbt_L0_S x0 x1 v).fr, [(0, .grid ([Sh.int IntKind.i64, Sh.int IntKind.i64, Sh.int IntKind.i64, Sh.int IntKind.i64, Sh.int IntKind.i64, Sh.int IntKind.i64, Sh.int IntKind.i64, Sh.int IntKind.i64, Sh.int IntKind.i64, Sh.int IntKind.i64, Sh.int IntKind.i64, Sh.int IntKind.i64]) x0), (1, .grid ([Sh.int IntKind.i64]) x1), (2, .cells [.val true (.int .i64 0), .val true (.int .i64 0), .val true (.int .i64 0), .val true (.int .i64 0), .val true (.int .i64 0), .val true (.int .i64 0), .val true (.int .i64 0), .val true (.int .i64 0), .val true (.int .i64 0), .val true (.int .i64 0), .val true (.int .i64 0), .val true (.int .i64 0)] 51), (3, .grid ([Sh.int IntKind.i64, Sh.int IntKind.i64, Sh.int IntKind.i64, Sh.int IntKind.i64, Sh.int IntKind.i64, Sh.int IntKind.i64, Sh.int IntKind.i64, Sh.int IntKind.i64, Sh.int IntKind.i64, Sh.int IntKind.i64, Sh.int IntKind.i64, Sh.int IntKind.i64]) v.2)], 5, []⟩)
noncomputable def rbt_L0_rd (ex : Ex) (s : St) : Option ((Int × List (List Ct)) ⊕ (Int × List (List Ct))) × List (Nat × Option Nat) := match ex with
  | .normal => (some (.inl (rI (frC s 6 0), rL s (frC s 5 0))), [(2, some 2), rnOf 3 (frC s 5 0)])
  | .exit i => bif Nat.beq i 0 then (some (.inr (rI (frC s 6 0), rL s (frC s 5 0))), [(2, some 2), (3, some 3)]) else (none, [])
  | _ => (none, [])
noncomputable def rbt_L0_step (x0 : List (List Ct)) (x1 : List (List Ct)) : (Int × List (List Ct)) → Option ((Int × List (List Ct)) ⊕ (Int × List (List Ct))) := fun v => match v with
  | (vi0, vl0) => bif (decide (vi0 < (↑x1.length : Int))) then (bif (decide ((0 : Int) ≤ vi0 ∧ vi0 < (↑x1.length : Int))) then bif (decide ((0 : Int) ≤ (rd x1 vi0.toNat 0).int ∧ (rd x1 vi0.toNat 0).int < (↑x0.length : Int))) then bif (decide (vl0.length + [[Ct.i (rd x0 (rd x1 vi0.toNat 0).int.toNat 0).int, Ct.i (rd x0 (rd x1 vi0.toNat 0).int.toNat 1).int, Ct.i (rd x0 (rd x1 vi0.toNat 0).int.toNat 2).int, Ct.i (rd x0 (rd x1 vi0.toNat 0).int.toNat 3).int, Ct.i (rd x0 (rd x1 vi0.toNat 0).int.toNat 4).int, Ct.i (rd x0 (rd x1 vi0.toNat 0).int.toNat 5).int, Ct.i (rd x0 (rd x1 vi0.toNat 0).int.toNat 6).int, Ct.i (rd x0 (rd x1 vi0.toNat 0).int.toNat 7).int, Ct.i (rd x0 (rd x1 vi0.toNat 0).int.toNat 8).int, Ct.i (rd x0 (rd x1 vi0.toNat 0).int.toNat 9).int, Ct.i (rd x0 (rd x1 vi0.toNat 0).int.toNat 10).int, Ct.i (rd x0 (rd x1 vi0.toNat 0).int.toNat 11).int]].length ≤ 9223372036854775807 ∧ (vl0.length + [[Ct.i (rd x0 (rd x1 vi0.toNat 0).int.toNat 0).int, Ct.i (rd x0 (rd x1 vi0.toNat 0).int.toNat 1).int, Ct.i (rd x0 (rd x1 vi0.toNat 0).int.toNat 2).int, Ct.i (rd x0 (rd x1 vi0.toNat 0).int.toNat 3).int, Ct.i (rd x0 (rd x1 vi0.toNat 0).int.toNat 4).int, Ct.i (rd x0 (rd x1 vi0.toNat 0).int.toNat 5).int, Ct.i (rd x0 (rd x1 vi0.toNat 0).int.toNat 6).int, Ct.i (rd x0 (rd x1 vi0.toNat 0).int.toNat 7).int, Ct.i (rd x0 (rd x1 vi0.toNat 0).int.toNat 8).int, Ct.i (rd x0 (rd x1 vi0.toNat 0).int.toNat 9).int, Ct.i (rd x0 (rd x1 vi0.toNat 0).int.toNat 10).int, Ct.i (rd x0 (rd x1 vi0.toNat 0).int.toNat 11).int]].length) * 96 ≤ 140737488355328)) then some (.inl (IntKind.i64.wrap (vi0 + (1 : Int)), vl0 ++ [[Ct.i (rd x0 (rd x1 vi0.toNat 0).int.toNat 0).int, Ct.i (rd x0 (rd x1 vi0.toNat 0).int.toNat 1).int, Ct.i (rd x0 (rd x1 vi0.toNat 0).int.toNat 2).int, Ct.i (rd x0 (rd x1 vi0.toNat 0).int.toNat 3).int, Ct.i (rd x0 (rd x1 vi0.toNat 0).int.toNat 4).int, Ct.i (rd x0 (rd x1 vi0.toNat 0).int.toNat 5).int, Ct.i (rd x0 (rd x1 vi0.toNat 0).int.toNat 6).int, Ct.i (rd x0 (rd x1 vi0.toNat 0).int.toNat 7).int, Ct.i (rd x0 (rd x1 vi0.toNat 0).int.toNat 8).int, Ct.i (rd x0 (rd x1 vi0.toNat 0).int.toNat 9).int, Ct.i (rd x0 (rd x1 vi0.toNat 0).int.toNat 10).int, Ct.i (rd x0 (rd x1 vi0.toNat 0).int.toNat 11).int]])) else none else none else none) else some (.inr (vi0, vl0))
noncomputable def rbt_L0_c : Code := loopC Try.prog 27 0
set_option maxRecDepth 100000 in
theorem rbt_L0_ok (x0 : List (List Ct)) (x1 : List (List Ct)) : ∀ v, StepOk Try.prog 2 rbt_L0_c (rbt_L0_S x0 x1) (rbt_L0_T x0 x1) v (rbt_L0_step x0 x1 v) := fun v => match v with | (vi0, vl0) => eng_step (C := (⟨consTr8, fun _ _ _ => none, fun f => false, noFacts, fun _ => 4⟩ : Cfg Try.prog)) noFacts_ok (n := 30) (f := 27) rbt_L0_rd (fun _ => rfl) (by kernel_rfl)
noncomputable def rbt_L0_p (x0 : List (List Ct)) (x1 : List (List Ct)) : Bool := (iter (rbt_L0_step x0 x1) (x1.length + 1) (0, [])).isSome
noncomputable def rbt_L0_v (x0 : List (List Ct)) (x1 : List (List Ct)) : Int × List (List Ct) := loopRes (rbt_L0_step x0 x1) (x1.length + 1) (0, [])
set_option maxRecDepth 100000 in
noncomputable def rbt_L0_lc (x0 : List (List Ct)) (x1 : List (List Ct)) : LoopCon Try.prog := loopCon Try.prog 2 rbt_L0_c [(2, some 2), (3, none)] (rbt_L0_S x0 x1) (rbt_L0_T x0 x1) 0 (rbt_L0_step x0 x1) (rbt_L0_ok x0 x1) (x1.length + 1) (0, []) (rbt_L0_p x0 x1) rfl (rbt_L0_v x0 x1) rfl
noncomputable def rbt_O (v : Int × Int × Int × Int × Int × Int × Int × Int × Int × Int × Int × Int) : Out := ⟨.sv (.agg [.val false (.int .i64 v.1), .val false (.int .i64 v.2.1), .val false (.int .i64 v.2.2.1), .val false (.int .i64 v.2.2.2.1), .val false (.int .i64 v.2.2.2.2.1), .val false (.int .i64 v.2.2.2.2.2.1), .val false (.int .i64 v.2.2.2.2.2.2.1), .val false (.int .i64 v.2.2.2.2.2.2.2.1), .val false (.int .i64 v.2.2.2.2.2.2.2.2.1), .val false (.int .i64 v.2.2.2.2.2.2.2.2.2.1), .val false (.int .i64 v.2.2.2.2.2.2.2.2.2.2.1), .val false (.int .i64 v.2.2.2.2.2.2.2.2.2.2.2)]), [], 17, []⟩
noncomputable def rbt_rd (out : Out) : Option (Int × Int × Int × Int × Int × Int × Int × Int × Int × Int × Int × Int) := some (rI (rvC out.v 0 0), rI (rvC out.v 0 1), rI (rvC out.v 0 2), rI (rvC out.v 0 3), rI (rvC out.v 0 4), rI (rvC out.v 0 5), rI (rvC out.v 0 6), rI (rvC out.v 0 7), rI (rvC out.v 0 8), rI (rvC out.v 0 9), rI (rvC out.v 0 10), rI (rvC out.v 0 11))
noncomputable def rbt_res (x0 : List (List Ct)) (x1 : List (List Ct)) : Option (Int × Int × Int × Int × Int × Int × Int × Int × Int × Int × Int × Int) := bif (rbt_L0_p x0 x1) then bif (decide (0 < (rbt_L0_v x0 x1).snd.length ∧ (rbt_L0_v x0 x1).snd.length ≤ 1000)) then some ((rboth_v (rbt_L0_v x0 x1).snd).fst, (rboth_v (rbt_L0_v x0 x1).snd).snd.fst, (rboth_v (rbt_L0_v x0 x1).snd).snd.snd.fst, (rboth_v (rbt_L0_v x0 x1).snd).snd.snd.snd.fst, (rboth_v (rbt_L0_v x0 x1).snd).snd.snd.snd.snd.fst, (rboth_v (rbt_L0_v x0 x1).snd).snd.snd.snd.snd.snd.fst, (rboth_v (rbt_L0_v x0 x1).snd).snd.snd.snd.snd.snd.snd.fst, (rboth_v (rbt_L0_v x0 x1).snd).snd.snd.snd.snd.snd.snd.snd.fst, (rboth_v (rbt_L0_v x0 x1).snd).snd.snd.snd.snd.snd.snd.snd.snd.fst, (rboth_v (rbt_L0_v x0 x1).snd).snd.snd.snd.snd.snd.snd.snd.snd.snd.fst, (rboth_v (rbt_L0_v x0 x1).snd).snd.snd.snd.snd.snd.snd.snd.snd.snd.snd.fst, (rboth_v (rbt_L0_v x0 x1).snd).snd.snd.snd.snd.snd.snd.snd.snd.snd.snd.snd) else none else none
set_option maxRecDepth 100000 in
theorem rbt_tree {x0 : List (List Ct)} {x1 : List (List Ct)} {v : Int × Int × Int × Int × Int × Int × Int × Int × Int × Int × Int × Int} (h : rbt_res x0 x1 = some v) : CallOk Try.prog 27 [.sv (.one (.ext 0)), .sv (.one (.ext 1))] [(0, .grid [.int .i64, .int .i64, .int .i64, .int .i64, .int .i64, .int .i64, .int .i64, .int .i64, .int .i64, .int .i64, .int .i64, .int .i64] x0), (1, .grid [.int .i64] x1)] 2 (rbt_O v) :=
  eng_tree (C := (⟨consTr8, fun f id nx => bif Nat.beq f 27 then (bif Nat.beq id 0 then some (rbt_L0_lc x0 x1) else none) else none, fun f => false, noFacts, fun _ => 4⟩ : Cfg Try.prog)) noFacts_ok (n := 30) (f := 27) rbt_O rbt_rd rfl (by kernel_rfl) h
noncomputable def rbt_v (x0 : List (List Ct)) (x1 : List (List Ct)) : Int × Int × Int × Int × Int × Int × Int × Int × Int × Int × Int × Int := (rbt_res x0 x1).getD default
theorem rbt_spec (x0 : List (List Ct)) (x1 : List (List Ct)) (h : ((rbt_res x0 x1).isSome) = true) : rbt_res x0 x1 = some (rbt_v x0 x1) := opt_get h
noncomputable def rbt_m (args : List RV) (hp : Hp) : Option ((List (List Ct) × List (List Ct)) × List Nat) := match args with
  | [.sv (.one (.ext i0)), .sv (.one (.ext i1))] => (match gridAt hp i0 [.int .i64, .int .i64, .int .i64, .int .i64, .int .i64, .int .i64, .int .i64, .int .i64, .int .i64, .int .i64, .int .i64, .int .i64], gridAt hp i1 [.int .i64] with
    | some x0, some x1 => some ((x0, x1), [i0, i1])
    | _, _ => none)
  | _ => none
noncomputable def rbt_con : Con Try.prog := conX Try.prog 27 rbt_m 2 (fun x => [.sv (.one (.ext 0)), .sv (.one (.ext 1))]) (fun x => [(0, .grid [.int .i64, .int .i64, .int .i64, .int .i64, .int .i64, .int .i64, .int .i64, .int .i64, .int .i64, .int .i64, .int .i64, .int .i64] x.1), (1, .grid [.int .i64] x.2)]) (fun x => some ((rbt_res x.1 x.2).isSome)) (fun x => rbt_O (rbt_v x.1 x.2))
  (by
    intro args hp x r h
    unfold rbt_m at h
    split at h
    · split at h
      · rename_i g0 g1
        cases h
        refine ⟨rfl, fun nx => ⟨rfl, ?_, ?_⟩⟩
        · intro i hi
          simp only [List.mem_cons, List.not_mem_nil, or_false] at hi
          rcases hi with rfl | rfl
          · exact ⟨_, List.mem_of_getElem? (i := 0) rfl, .inl (by simp [RV.ids, SV.ids, CV.ids])⟩
          · exact ⟨_, List.mem_of_getElem? (i := 1) rfl, .inl (by simp [RV.ids, SV.ids, CV.ids])⟩
        · intro id o0 ho
          have := hlook_mem ho
          simp only [List.mem_cons, Prod.mk.injEq, List.not_mem_nil, or_false] at this
          rcases this with ⟨rfl, rfl⟩ | ⟨rfl, rfl⟩
          · exact ⟨_, gridAt_spec g0, rfl⟩
          · exact ⟨_, gridAt_spec g1, rfl⟩
      · cases h
    · cases h)
  (fun x h => ⟨rfl, rfl, rbt_tree (rbt_spec x.1 x.2 (h _ rfl))⟩)
noncomputable def consTr9 : List (Con Try.prog) := [rbt_con.freeze] ++ consTr8
end Go.Proofs.Ytpfaejbdbdjhhaa
