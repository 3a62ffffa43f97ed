/- The document's press. No condition. -/
import Derived.Test.YtcpbiijegbbafaaEngPack3
set_option linter.unusedVariables false
set_option linter.unusedSimpArgs false
namespace Go.Proofs.Ytcpbiijegbbafaa
open Go.RowKit

noncomputable def rprs_L2_S (x0 : List (List Ct)) (vi0 : Int) (vl0 : List (List Ct)) (v : Int × List (List Ct)) : St := ⟨[.o (.ext 0), .d, .o (.val true (Value.slice none 0 0)), .o (.ext 1), .o (.q v.1), .o (.q (palk_v x0 vi0)), .o (.ext 8), .o (.q vi0), .o (.ext 0), .o (.q (↑x0.length : Int)), .o (.val true (.bool true)), .o (.ext 0), .o (.q vi0), .o (.q (palk_v x0 vi0)), .o (.q (palk_v x0 vi0)), .o (.val true (.bool false)), .d, .d, .d, .d, .d, .d, .d, .d, .d, .d, .d, .d, .d, .d, .d, .d, .d, .d, .d, .d, .d, .d, .d, .d, .d, .d, .d, .d, .d, .d, .d, .d, .d, .d, .d, .d, .d, .d, .d, .d, .d, .d, .d, .d, .d, .d, .d, .d, .d, .d, .d, .d, .d, .d, .d, .d, .d, .d], [(0, .grid ([Sh.int IntKind.u8]) x0), (1, .row ([Sh.int IntKind.u8]) 5 vl0), (8, .row ([Sh.int IntKind.u8]) 5 v.2)], 9, []⟩
noncomputable def rprs_L2_T (x0 : List (List Ct)) (vi0 : Int) (vl0 : List (List Ct)) (v : Int × List (List Ct)) : Ex × St := ((.exit 2), ⟨(rprs_L2_S x0 vi0 vl0 v).fr, (rprs_L2_S x0 vi0 vl0 v).hp, 17, []⟩)
noncomputable def rprs_L2_rd (ex : Ex) (s : St) : Option ((Int × List (List Ct)) ⊕ (Int × List (List Ct))) × List (Nat × Option Nat) := match ex with
  | .normal => (some (.inl (rI (frC s 4 0), rL s (frC s 6 0))), [(1, some 1), rnOf 8 (frC s 6 0)])
  | .exit i => bif Nat.beq i 2 then (some (.inr (rI (frC s 4 0), rL s (frC s 6 0))), [(1, some 1), (8, some 8)]) else (none, [])
  | _ => (none, [])
noncomputable def rprs_L2_step (x0 : List (List Ct)) (vi0 : Int) (vl0 : List (List Ct)) : (Int × List (List Ct)) → Option ((Int × List (List Ct)) ⊕ (Int × List (List Ct))) := fun v => match v with
  | (wi0, wl0) => bif (decide (wi0 < (↑x0.length : Int))) then (bif (decide ((↑wl0.length : Int) < (128 : Int))) then (bif ((↑wl0.length : Int) == (0 : Int)) then (bif (decide ((0 : Int) ≤ wi0 ∧ wi0 < (↑x0.length : Int))) then bif (decide (wl0.length + [[Ct.i (rd x0 wi0.toNat 0).int]].length ≤ 9223372036854775807 ∧ (wl0.length + [[Ct.i (rd x0 wi0.toNat 0).int]].length) * 1 ≤ 140737488355328)) then some (.inl (IntKind.i64.wrap (wi0 + (1 : Int)), wl0 ++ [[Ct.i (rd x0 wi0.toNat 0).int]])) else none else none) else bif (palk_L0_p x0 wi0) then bif (decide (palk_v x0 wi0 < (3 : Int))) then (bif (decide ((0 : Int) ≤ wi0 ∧ wi0 < (↑x0.length : Int))) then bif (decide (wl0.length + [[Ct.i (rd x0 wi0.toNat 0).int]].length ≤ 9223372036854775807 ∧ (wl0.length + [[Ct.i (rd x0 wi0.toNat 0).int]].length) * 1 ≤ 140737488355328)) then some (.inl (IntKind.i64.wrap (wi0 + (1 : Int)), wl0 ++ [[Ct.i (rd x0 wi0.toNat 0).int]])) else none else none) else some (.inr (wi0, wl0)) else none) else some (.inr (wi0, wl0))) else some (.inr (wi0, wl0))
noncomputable def rprs_L2_c : Code := loopC Try.prog 85 2
set_option maxRecDepth 100000 in
theorem rprs_L2_ok (x0 : List (List Ct)) (vi0 : Int) (vl0 : List (List Ct)) : ∀ v, StepOk Try.prog 1 rprs_L2_c (rprs_L2_S x0 vi0 vl0) (rprs_L2_T x0 vi0 vl0) v (rprs_L2_step x0 vi0 vl0 v) := fun v => match v with | (wi0, wl0) => eng_step (C := (⟨consPack1, fun _ _ _ => none, fun f => false, noFacts, fun _ => 0⟩ : Cfg Try.prog)) noFacts_ok (n := 30) (f := 85) rprs_L2_rd (fun _ => rfl) (by kernel_rfl)
noncomputable def rprs_L2_p (x0 : List (List Ct)) (vi0 : Int) (vl0 : List (List Ct)) : Bool := (iter (rprs_L2_step x0 vi0 vl0) 1000 (vi0, [])).isSome
noncomputable def rprs_L2_v (x0 : List (List Ct)) (vi0 : Int) (vl0 : List (List Ct)) : Int × List (List Ct) := loopRes (rprs_L2_step x0 vi0 vl0) 1000 (vi0, [])
set_option maxRecDepth 100000 in
noncomputable def rprs_L2_lc (x0 : List (List Ct)) (vi0 : Int) (vl0 : List (List Ct)) : LoopCon Try.prog := loopCon Try.prog 1 rprs_L2_c [(1, some 1), (8, none)] (rprs_L2_S x0 vi0 vl0) (rprs_L2_T x0 vi0 vl0) 2 (rprs_L2_step x0 vi0 vl0) (rprs_L2_ok x0 vi0 vl0) 1000 (vi0, []) (rprs_L2_p x0 vi0 vl0) rfl (rprs_L2_v x0 vi0 vl0) rfl
noncomputable def rprs_L0_S (x0 : List (List Ct)) (v : Int × List (List Ct)) : St := ⟨[.o (.ext 0), .d, .o (.val true (Value.slice none 0 0)), .o (.ext 1), .o (.q v.1), .d, .d, .d, .d, .d, .d, .d, .d, .d, .d, .d, .d, .d, .d, .d, .d, .d, .d, .d, .d, .d, .d, .d, .d, .d, .d, .d, .d, .d, .d, .d, .d, .d, .d, .d, .d, .d, .d, .d, .d, .d, .d, .d, .d, .d, .d, .d, .d, .d, .d, .d, .d, .d, .d, .d, .d, .d, .d, .d, .d, .d, .d, .d, .d, .d, .d, .d, .d, .d], [(0, .grid ([Sh.int IntKind.u8]) x0), (1, .row ([Sh.int IntKind.u8]) 5 v.2)], 2, []⟩
noncomputable def rprs_L0_T (x0 : List (List Ct)) (v : Int × List (List Ct)) : Ex × St := ((.exit 0), ⟨(rprs_L0_S x0 v).fr, (rprs_L0_S x0 v).hp, 3, []⟩)
noncomputable def rprs_L0_rd (ex : Ex) (s : St) : Option ((Int × List (List Ct)) ⊕ (Int × List (List Ct))) × List (Nat × Option Nat) := match ex with
  | .normal => (some (.inl (rI (frC s 4 0), rL s (frC s 3 0))), [rnOf 1 (frC s 3 0)])
  | .exit i => bif Nat.beq i 0 then (some (.inr (rI (frC s 4 0), rL s (frC s 3 0))), [(1, some 1)]) else (none, [])
  | _ => (none, [])
noncomputable def rprs_L0_step (x0 : List (List Ct)) : (Int × List (List Ct)) → Option ((Int × List (List Ct)) ⊕ (Int × List (List Ct))) := fun v => match v with
  | (vi0, vl0) => bif (decide (vi0 < (↑x0.length : Int))) then (bif (palk_L0_p x0 vi0) then bif (decide (palk_v x0 vi0 ≥ (3 : Int))) then (bif (decide (palk_v x0 vi0 > (129 : Int))) then (bif (decide (vl0.length + [[Ct.i (255 : Int)]].length ≤ 9223372036854775807 ∧ (vl0.length + [[Ct.i (255 : Int)]].length) * 1 ≤ 140737488355328)) then bif (decide ((0 : Int) ≤ vi0 ∧ vi0 < (↑x0.length : Int))) then bif (decide ((vl0 ++ [[Ct.i (255 : Int)]]).length + [[Ct.i (rd x0 vi0.toNat 0).int]].length ≤ 9223372036854775807 ∧ ((vl0 ++ [[Ct.i (255 : Int)]]).length + [[Ct.i (rd x0 vi0.toNat 0).int]].length) * 1 ≤ 140737488355328)) then some (.inl (IntKind.i64.wrap (vi0 + (129 : Int)), vl0 ++ [[Ct.i (255 : Int)]] ++ [[Ct.i (rd x0 vi0.toNat 0).int]])) else none else none else none) else bif (decide (vl0.length + [[Ct.i (IntKind.u8.wrap (IntKind.i64.wrap ((126 : Int) + palk_v x0 vi0)))]].length ≤ 9223372036854775807 ∧ (vl0.length + [[Ct.i (IntKind.u8.wrap (IntKind.i64.wrap ((126 : Int) + palk_v x0 vi0)))]].length) * 1 ≤ 140737488355328)) then bif (decide ((0 : Int) ≤ vi0 ∧ vi0 < (↑x0.length : Int))) then bif (decide ((vl0 ++ [[Ct.i (IntKind.u8.wrap (IntKind.i64.wrap ((126 : Int) + palk_v x0 vi0)))]]).length + [[Ct.i (rd x0 vi0.toNat 0).int]].length ≤ 9223372036854775807 ∧ ((vl0 ++ [[Ct.i (IntKind.u8.wrap (IntKind.i64.wrap ((126 : Int) + palk_v x0 vi0)))]]).length + [[Ct.i (rd x0 vi0.toNat 0).int]].length) * 1 ≤ 140737488355328)) then some (.inl (IntKind.i64.wrap (vi0 + palk_v x0 vi0), vl0 ++ [[Ct.i (IntKind.u8.wrap (IntKind.i64.wrap ((126 : Int) + palk_v x0 vi0)))]] ++ [[Ct.i (rd x0 vi0.toNat 0).int]])) else none else none else none) else bif (rprs_L2_p x0 vi0 vl0) then bif (decide (vl0.length + [[Ct.i (IntKind.u8.wrap (IntKind.i64.wrap ((↑(rprs_L2_v x0 vi0 vl0).snd.length : Int) - (1 : Int))))]].length ≤ 9223372036854775807 ∧ (vl0.length + [[Ct.i (IntKind.u8.wrap (IntKind.i64.wrap ((↑(rprs_L2_v x0 vi0 vl0).snd.length : Int) - (1 : Int))))]].length) * 1 ≤ 140737488355328)) then bif (decide ((vl0 ++ [[Ct.i (IntKind.u8.wrap (IntKind.i64.wrap ((↑(rprs_L2_v x0 vi0 vl0).snd.length : Int) - (1 : Int))))]]).length + (rprs_L2_v x0 vi0 vl0).snd.length ≤ 9223372036854775807 ∧ ((vl0 ++ [[Ct.i (IntKind.u8.wrap (IntKind.i64.wrap ((↑(rprs_L2_v x0 vi0 vl0).snd.length : Int) - (1 : Int))))]]).length + (rprs_L2_v x0 vi0 vl0).snd.length) * 1 ≤ 140737488355328)) then some (.inl ((rprs_L2_v x0 vi0 vl0).fst, vl0 ++ [[Ct.i (IntKind.u8.wrap (IntKind.i64.wrap ((↑(rprs_L2_v x0 vi0 vl0).snd.length : Int) - (1 : Int))))]] ++ (rprs_L2_v x0 vi0 vl0).snd)) else none else none else none else none) else some (.inr (vi0, vl0))
noncomputable def rprs_L0_c : Code := loopC Try.prog 85 0
set_option maxRecDepth 100000 in
theorem rprs_L0_ok (x0 : List (List Ct)) : ∀ v, StepOk Try.prog 1 rprs_L0_c (rprs_L0_S x0) (rprs_L0_T x0) v (rprs_L0_step x0 v) := fun v => match v with | (vi0, vl0) => eng_step (C := (⟨consPack1, fun f id nx => bif Nat.beq f 85 then (bif Nat.beq id 2 then some (rprs_L2_lc x0 vi0 vl0) else none) else none, fun f => false, noFacts, fun _ => 0⟩ : Cfg Try.prog)) noFacts_ok (n := 30) (f := 85) rprs_L0_rd (fun _ => rfl) (by kernel_rfl)
noncomputable def rprs_L0_p (x0 : List (List Ct)) : Bool := (iter (rprs_L0_step x0) (x0.length + 1) (0, [])).isSome
noncomputable def rprs_L0_v (x0 : List (List Ct)) : Int × List (List Ct) := loopRes (rprs_L0_step x0) (x0.length + 1) (0, [])
set_option maxRecDepth 100000 in
noncomputable def rprs_L0_lc (x0 : List (List Ct)) : LoopCon Try.prog := loopCon Try.prog 1 rprs_L0_c [(1, none)] (rprs_L0_S x0) (rprs_L0_T x0) 0 (rprs_L0_step x0) (rprs_L0_ok x0) (x0.length + 1) (0, []) (rprs_L0_p x0) rfl (rprs_L0_v x0) rfl
noncomputable def rprs_O (v : List (List Ct)) : Out := ⟨.sv (.one (.ext 1)), [(1, .row ([Sh.int IntKind.u8]) 5 v)], 3, []⟩
noncomputable def rprs_rd (out : Out) : Option (List (List Ct)) := some (hpL' out.up 1)
noncomputable def rprs_res (x0 : List (List Ct)) : Option (List (List Ct)) := bif (rprs_L0_p x0) then some ((rprs_L0_v x0).snd) else none
set_option maxRecDepth 100000 in
theorem rprs_tree {x0 : List (List Ct)} {v : List (List Ct)} (h : rprs_res x0 = some v) : CallOk Try.prog 85 [.sv (.one (.ext 0))] [(0, .grid [.int .u8] x0)] 1 (rprs_O v) :=
  eng_tree (C := (⟨consPack1, fun f id nx => bif Nat.beq f 85 then (bif Nat.beq id 0 then some (rprs_L0_lc x0) else none) else none, fun f => false, noFacts, fun _ => 0⟩ : Cfg Try.prog)) noFacts_ok (n := 30) (f := 85) rprs_O rprs_rd rfl (by kernel_rfl) h
noncomputable def rprs_v (x0 : List (List Ct)) : List (List Ct) := ((rprs_L0_v x0).snd)
theorem rprs_spec (x0 : List (List Ct)) (h : (rprs_L0_p x0) = true) : rprs_res x0 = some (rprs_v x0) := by
  simp only [rprs_res, rprs_v, h, cond_true]
noncomputable def rprs_m (args : List RV) (hp : Hp) : Option ((List (List Ct)) × List Nat) := match args with
  | [.sv (.one (.ext i0))] => (match gridAt hp i0 [.int .u8] with
    | some x0 => some (x0, [i0])
    | _ => none)
  | _ => none
noncomputable def rprs_con : Con Try.prog := conX Try.prog 85 rprs_m 1 (fun x => [.sv (.one (.ext 0))]) (fun x => [(0, .grid [.int .u8] x)]) (fun x => some (rprs_L0_p x)) (fun x => rprs_O (rprs_v x))
  (by
    intro args hp x r h
    unfold rprs_m at h
    split at h
    · split at h
      · rename_i g0
        cases h
        refine ⟨rfl, fun nx => ⟨rfl, ?_, ?_⟩⟩
        · intro i hi
          simp only [List.mem_cons, List.not_mem_nil, or_false] at hi
          rcases hi with rfl
          · exact ⟨_, List.mem_of_getElem? (i := 0) rfl, .inl (by simp [RV.ids, SV.ids, CV.ids])⟩
        · intro id o0 ho
          have := hlook_mem ho
          simp only [List.mem_cons, Prod.mk.injEq, List.not_mem_nil, or_false] at this
          rcases this with ⟨rfl, rfl⟩
          · exact ⟨_, gridAt_spec g0, rfl⟩
      · cases h
    · cases h)
  (fun x h => ⟨rfl, rfl, rprs_tree (rprs_spec x (h _ rfl))⟩)
noncomputable def consPack4 : List (Con Try.prog) := [rprs_con.freezeR.freezeO] ++ consPack3
end Go.Proofs.Ytcpbiijegbbafaa
