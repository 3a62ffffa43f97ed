/- The kinds of frames. No condition. -/
import Derived.Test.YtcpbiijegbbafaaEngFk6
set_option linter.unusedVariables false
set_option linter.unusedSimpArgs false
namespace Go.Proofs.Ytcpbiijegbbafaa
open Go.RowKit

noncomputable def fki_c6100797 (x0 : List (List Ct)) : Int × Int × Int × Int × List (List Ct) := fhd_v (rrd_v x0) (0 : Int)
noncomputable def fki_L0_S (x0 : List (List Ct)) (v : Int × Int × List (List Ct) × List (List Ct)) : St := ⟨[.o (.ext 0), .d, .o (.val true (Value.slice none 0 0)), .o (.val true (.int .i64 0)), .o (.ext 103), .o (.q ((fde_v x0).fst)), .o (.ptr 111 0), .o (.ptr 149 0), .o (.q ((fki_c6100797 x0).fst)), .o (.ext 150), .d, .o (.ext 0), .d, .o (.ext 103), .o (.q ((fde_v x0).fst)), .o (.q ((fde_v x0).fst)), .o (.val true (.bool false)), .d, .o (.ext 0), .o (.ptr 111 0), .d, .o (.ptr 111 0), .d, .sv (.agg [.q ((fki_c6100797 x0).snd.snd.fst), .q ((fki_c6100797 x0).snd.snd.snd.fst)]), .o (.q ((fki_c6100797 x0).fst)), .o (.q ((fki_c6100797 x0).fst)), .o (.q v.1), .d, .d, .d, .d, .d, .d, .d, .d, .d, .d], [(0, .grid ([Sh.int IntKind.u8]) x0), (103, .row ([(fun s => [Sh.sl s]) ((fun s => (List.replicate 3 s).flatten) [Sh.int IntKind.u8]), [[Sh.int IntKind.i64], [Sh.int IntKind.i64]].reverse.flatten].reverse.flatten) 88 ((fde_v x0).snd)), (111, .cells [.ext 148, .q v.2.1] 183), (148, .grid ([Sh.int IntKind.u8]) v.2.2.1), (149, .cells [.q ((fki_c6100797 x0).snd.snd.fst), .q ((fki_c6100797 x0).snd.snd.snd.fst)] 86), (150, .row ([Sh.int IntKind.i64]) 3 v.2.2.2)], 151, []⟩
noncomputable def fki_L0_T (x0 : List (List Ct)) (v : Int × Int × List (List Ct) × List (List Ct)) : Ex × St := ((.exit 0), ⟨(fki_L0_S x0 v).fr, (fki_L0_S x0 v).hp, 152, []⟩)
noncomputable def fki_L0_rd (ex : Ex) (s : St) : Option ((Int × Int × List (List Ct) × List (List Ct)) ⊕ (Int × Int × List (List Ct) × List (List Ct))) × List (Nat × Option Nat) := match ex with
  | .normal => (some (.inl (rI (frC s 26 0), rI (hpC s 111 1), rL s (hpC s 111 0), rL s (frC s 9 0))), [(103, some 103), (111, some 111), rnOf 148 (hpC s 111 0), (149, some 149), rnOf 150 (frC s 9 0)])
  | .exit i => bif Nat.beq i 0 then (some (.inr (rI (frC s 26 0), rI (hpC s 111 1), rL s (hpC s 111 0), rL s (frC s 9 0))), [(103, some 103), (111, some 111), (148, some 148), (149, some 149), (150, some 150)]) else (none, [])
  | _ => (none, [])
noncomputable def fki_c21420306 (vi1 : Int) (vl0 : List (List Ct)) : Int × List (List Ct) × List (List Ct) := rbl_v (rby_v vl0 vi1).snd.snd (rby_v vl0 vi1).snd.fst (262144 : Int)
noncomputable def fki_L0_step (x0 : List (List Ct)) : (Int × Int × List (List Ct) × List (List Ct)) → Option ((Int × Int × List (List Ct) × List (List Ct)) ⊕ (Int × Int × List (List Ct) × List (List Ct))) := fun v => match v with
  | (vi0, vi1, vl0, vl1) => bif (decide (vi0 < (fki_c6100797 x0).fst)) then (bif ((rby_res vl0 vi1).isSome) then bif (decide (vl1.length + [[Ct.i (rby_v vl0 vi1).fst]].length ≤ 9223372036854775807 ∧ (vl1.length + [[Ct.i (rby_v vl0 vi1).fst]].length) * 8 ≤ 140737488355328)) then bif ((rbl_res (rby_v vl0 vi1).snd.snd (rby_v vl0 vi1).snd.fst (262144 : Int)).isSome) then some (.inl (IntKind.i64.wrap (vi0 + (1 : Int)), (fki_c21420306 vi1 vl0).fst, (fki_c21420306 vi1 vl0).snd.snd, vl1 ++ [[Ct.i (rby_v vl0 vi1).fst]])) else none else none else none) else some (.inr (vi0, vi1, vl0, vl1))
noncomputable def fki_L0_c : Code := loopC Try.prog 25 0
set_option maxRecDepth 100000 in
theorem fki_L0_ok (x0 : List (List Ct)) : ∀ v, StepOk Try.prog 1 fki_L0_c (fki_L0_S x0) (fki_L0_T x0) v (fki_L0_step x0 v) := fun v => match v with | (vi0, vi1, vl0, vl1) => eng_step (C := (⟨consFk6, fun _ _ _ => none, fun f => false, noFacts, fun _ => 0⟩ : Cfg Try.prog)) noFacts_ok (n := 30) (f := 25) fki_L0_rd (fun _ => rfl) (by kernel_rfl)
noncomputable def fki_L0_p (x0 : List (List Ct)) : Bool := (iter (fki_L0_step x0) 300 (0, ((fki_c6100797 x0).snd.fst), ((fki_c6100797 x0).snd.snd.snd.snd), [])).isSome
noncomputable def fki_L0_v (x0 : List (List Ct)) : Int × Int × List (List Ct) × List (List Ct) := loopRes (fki_L0_step x0) 300 (0, ((fki_c6100797 x0).snd.fst), ((fki_c6100797 x0).snd.snd.snd.snd), [])
set_option maxRecDepth 100000 in
noncomputable def fki_L0_lc (x0 : List (List Ct)) : LoopCon Try.prog := loopCon Try.prog 1 fki_L0_c [(103, some 103), (111, some 111), (148, some 148), (149, some 149), (150, none)] (fki_L0_S x0) (fki_L0_T x0) 0 (fki_L0_step x0) (fki_L0_ok x0) 300 (0, ((fki_c6100797 x0).snd.fst), ((fki_c6100797 x0).snd.snd.snd.snd), []) (fki_L0_p x0) rfl (fki_L0_v x0) rfl
noncomputable def fki_O (v : Int × List (List Ct)) : Out := ⟨.tup [.one (.ext 150), .one (.val false (.int .i64 v.1))], [(150, .row ([Sh.int IntKind.i64]) 3 v.2)], 152, []⟩
noncomputable def fki_rd (out : Out) : Option (Int × List (List Ct)) := some (rI (rvC out.v 1 0), hpL' out.up 150)
noncomputable def fki_res (x0 : List (List Ct)) : Option (Int × List (List Ct)) := bif ((fde_res x0).isSome) then bif ((fde_v x0).fst != (0 : Int)) then (some ((fde_v x0).fst, [])) else bif ((rrd_res x0).isSome) then bif ((fhd_res (rrd_v x0) (0 : Int)).isSome) then bif (fki_L0_p x0) then some (0, (fki_L0_v x0).snd.snd.snd) else none else none else none else none
set_option maxRecDepth 100000 in
theorem fki_tree {x0 : List (List Ct)} {v : Int × List (List Ct)} (h : fki_res x0 = some v) : CallOk Try.prog 25 [.sv (.one (.ext 0))] [(0, .grid [.int .u8] x0)] 1 (fki_O v) :=
  eng_treeN (C := (⟨consFk6, fun f id nx => bif Nat.beq f 25 then (bif Nat.beq id 0 then some (fki_L0_lc x0) else none) else none, fun f => false, noFacts, fun _ => 0⟩ : Cfg Try.prog)) noFacts_ok (n := 30) (f := 25) fki_O fki_rd rfl (by kernel_rfl) h
noncomputable def fki_v (x0 : List (List Ct)) : Int × List (List Ct) := (fki_res x0).getD default
theorem fki_spec (x0 : List (List Ct)) (h : ((fki_res x0).isSome) = true) : fki_res x0 = some (fki_v x0) := opt_get h
noncomputable def fki_m (args : List RV) (hp : Hp) : Option ((List (List Ct)) × List Nat) := match args with
  | [.sv (.one (.ext i0))] => (match gridAt hp i0 [.int .u8] with
    | some x0 => some (x0, [i0])
    | _ => none)
  | _ => none
noncomputable def fki_con : Con Try.prog := conX Try.prog 25 fki_m 1 (fun x => [.sv (.one (.ext 0))]) (fun x => [(0, .grid [.int .u8] x)]) (fun x => some ((fki_res x).isSome)) (fun x => fki_O (fki_v x))
  (by
    intro args hp x r h
    unfold fki_m at h
    split at h
    · split at h
      · rename_i g0
        cases h
        refine ⟨rfl, fun nx => ⟨rfl, ?_, ?_⟩⟩
        · intro i hi
          simp only [List.mem_cons, List.not_mem_nil, or_false] at hi
          rcases hi with rfl
          · exact ⟨_, List.mem_of_getElem? (i := 0) rfl, .inl (by simp [RV.ids, SV.ids, CV.ids])⟩
        · intro id o0 ho
          have := hlook_mem ho
          simp only [List.mem_cons, Prod.mk.injEq, List.not_mem_nil, or_false] at this
          rcases this with ⟨rfl, rfl⟩
          · exact ⟨_, gridAt_spec g0, rfl⟩
      · cases h
    · cases h)
  (fun x h => ⟨rfl, rfl, fki_tree (fki_spec x (h _ rfl))⟩)
noncomputable def consFk7 : List (Con Try.prog) := [fki_con] ++ consFk6
end Go.Proofs.Ytcpbiijegbbafaa
