/- All pictures as the program's. No condition. -/
import Derived.Test.YtcpbiijegbbafaaEngFkL
set_option linter.unusedVariables false
set_option linter.unusedSimpArgs false
namespace Go.Proofs.Ytcpbiijegbbafaa
open Go.RowKit

noncomputable def pal_L0_S (x0 : List (List Ct)) (v : Int × List (List Ct)) : St := ⟨[.o (.ext 0), .d, .o (.val true (Value.slice none 0 0)), .o (.ext 1), .d, .d, .o (.ext 0), .o (.q (↑x0.length : Int)), .o (.q v.1), .d, .d, .d, .d, .d, .d, .d, .d, .d, .d], [(0, .grid ([Sh.int IntKind.i64, Sh.int IntKind.i64, Sh.sl [Sh.int IntKind.u8, Sh.int IntKind.u8, Sh.int IntKind.u8]]) x0), (1, .row ([(fun s => [Sh.sl s]) ((fun s => (List.replicate 3 s).flatten) [Sh.int IntKind.u8]), [[Sh.int IntKind.i64], [Sh.int IntKind.i64]].reverse.flatten].reverse.flatten) 88 v.2)], 2, []⟩
noncomputable def pal_L0_T (x0 : List (List Ct)) (v : Int × List (List Ct)) : Ex × St := ((.exit 0), ⟨(pal_L0_S x0 v).fr, [(0, .grid ([Sh.int IntKind.i64, Sh.int IntKind.i64, Sh.sl [Sh.int IntKind.u8, Sh.int IntKind.u8, Sh.int IntKind.u8]]) x0), (1, .grid ([(fun s => [Sh.sl s]) ((fun s => (List.replicate 3 s).flatten) [Sh.int IntKind.u8]), [[Sh.int IntKind.i64], [Sh.int IntKind.i64]].reverse.flatten].reverse.flatten) v.2)], 3, []⟩)
noncomputable def pal_L0_rd (ex : Ex) (s : St) : Option ((Int × List (List Ct)) ⊕ (Int × List (List Ct))) × List (Nat × Option Nat) := match ex with
  | .normal => (some (.inl (rI (frC s 8 0), rL s (frC s 3 0))), [rnOf 1 (frC s 3 0)])
  | .exit i => bif Nat.beq i 0 then (some (.inr (rI (frC s 8 0), rL s (frC s 3 0))), [(1, some 1)]) else (none, [])
  | _ => (none, [])
noncomputable def pal_c9589354 (x0 : List (List Ct)) (vi0 : Int) : Int × Int × List (List Ct) := pto_v (rd x0 vi0.toNat 0).int (rd x0 vi0.toNat 1).int (rd x0 vi0.toNat 2).rows
noncomputable def pal_L0_step (x0 : List (List Ct)) : (Int × List (List Ct)) → Option ((Int × List (List Ct)) ⊕ (Int × List (List Ct))) := fun v => match v with
  | (vi0, vl0) => bif (decide (vi0 < (↑x0.length : Int))) then (bif (decide ((0 : Int) ≤ vi0 ∧ vi0 < (↑x0.length : Int))) then bif ((pto_res (rd x0 vi0.toNat 0).int (rd x0 vi0.toNat 1).int (rd x0 vi0.toNat 2).rows).isSome) then bif (decide (vl0.length + [[Ct.i (pal_c9589354 x0 vi0).fst, Ct.i (pal_c9589354 x0 vi0).snd.fst, Ct.l (pal_c9589354 x0 vi0).snd.snd]].length ≤ 9223372036854775807 ∧ (vl0.length + [[Ct.i (pal_c9589354 x0 vi0).fst, Ct.i (pal_c9589354 x0 vi0).snd.fst, Ct.l (pal_c9589354 x0 vi0).snd.snd]].length) * 40 ≤ 140737488355328)) then some (.inl (IntKind.i64.wrap (vi0 + (1 : Int)), vl0 ++ [[Ct.i (pal_c9589354 x0 vi0).fst, Ct.i (pal_c9589354 x0 vi0).snd.fst, Ct.l (pal_c9589354 x0 vi0).snd.snd]])) else none else none else none) else some (.inr (vi0, vl0))
noncomputable def pal_L0_c : Code := loopC Try.prog 23 0
set_option maxRecDepth 100000 in
theorem pal_L0_ok (x0 : List (List Ct)) : ∀ v, StepOk Try.prog 1 pal_L0_c (pal_L0_S x0) (pal_L0_T x0) v (pal_L0_step x0 v) := fun v => match v with | (vi0, vl0) => eng_step (C := (⟨consFkL, fun _ _ _ => none, fun f => false, noFacts, fun _ => 0⟩ : Cfg Try.prog)) noFacts_ok (n := 30) (f := 23) pal_L0_rd (fun _ => rfl) (by kernel_rfl)
noncomputable def pal_L0_p (x0 : List (List Ct)) : Bool := (iter (pal_L0_step x0) (x0.length + 1) (0, [])).isSome
noncomputable def pal_L0_v (x0 : List (List Ct)) : Int × List (List Ct) := loopRes (pal_L0_step x0) (x0.length + 1) (0, [])
set_option maxRecDepth 100000 in
noncomputable def pal_L0_lc (x0 : List (List Ct)) : LoopCon Try.prog := loopCon Try.prog 1 pal_L0_c [(1, none)] (pal_L0_S x0) (pal_L0_T x0) 0 (pal_L0_step x0) (pal_L0_ok x0) (x0.length + 1) (0, []) (pal_L0_p x0) rfl (pal_L0_v x0) rfl
noncomputable def pal_O (v : List (List Ct)) : Out := ⟨.sv (.one (.ext 1)), [(1, .grid ([(fun s => [Sh.sl s]) ((fun s => (List.replicate 3 s).flatten) [Sh.int IntKind.u8]), [[Sh.int IntKind.i64], [Sh.int IntKind.i64]].reverse.flatten].reverse.flatten) v)], 3, []⟩
noncomputable def pal_rd (out : Out) : Option (List (List Ct)) := some (hpL' out.up 1)
noncomputable def pal_res (x0 : List (List Ct)) : Option (List (List Ct)) := bif (pal_L0_p x0) then some ((pal_L0_v x0).snd) else none
set_option maxRecDepth 100000 in
theorem pal_tree {x0 : List (List Ct)} {v : List (List Ct)} (h : pal_res x0 = some v) : CallOk Try.prog 23 [.sv (.one (.ext 0))] [(0, .grid [.int .i64, .int .i64, .sl [.int .u8, .int .u8, .int .u8]] x0)] 1 (pal_O v) :=
  eng_tree (C := (⟨consFkL, fun f id nx => bif Nat.beq f 23 then (bif Nat.beq id 0 then some (pal_L0_lc x0) else none) else none, fun f => false, noFacts, fun _ => 0⟩ : Cfg Try.prog)) noFacts_ok (n := 30) (f := 23) pal_O pal_rd rfl (by kernel_rfl) h
noncomputable def pal_v (x0 : List (List Ct)) : List (List Ct) := (pal_res x0).getD default
theorem pal_spec (x0 : List (List Ct)) (h : ((pal_res x0).isSome) = true) : pal_res x0 = some (pal_v x0) := opt_get h
noncomputable def pal_m (args : List RV) (hp : Hp) : Option ((List (List Ct)) × List Nat) := match args with
  | [.sv (.one (.ext i0))] => (match gridAt hp i0 [.int .i64, .int .i64, .sl [.int .u8, .int .u8, .int .u8]] with
    | some x0 => some (x0, [i0])
    | _ => none)
  | _ => none
noncomputable def pal_con : Con Try.prog := conX Try.prog 23 pal_m 1 (fun x => [.sv (.one (.ext 0))]) (fun x => [(0, .grid [.int .i64, .int .i64, .sl [.int .u8, .int .u8, .int .u8]] x)]) (fun x => some ((pal_res x).isSome)) (fun x => pal_O (pal_v x))
  (by
    intro args hp x r h
    unfold pal_m at h
    split at h
    · split at h
      · rename_i g0
        cases h
        refine ⟨rfl, fun nx => ⟨rfl, ?_, ?_⟩⟩
        · intro i hi
          simp only [List.mem_cons, List.not_mem_nil, or_false] at hi
          rcases hi with rfl
          · exact ⟨_, List.mem_of_getElem? (i := 0) rfl, .inl (by simp [RV.ids, SV.ids, CV.ids])⟩
        · intro id o0 ho
          have := hlook_mem ho
          simp only [List.mem_cons, Prod.mk.injEq, List.not_mem_nil, or_false] at this
          rcases this with ⟨rfl, rfl⟩
          · exact ⟨_, gridAt_spec g0, rfl⟩
      · cases h
    · cases h)
  (fun x h => ⟨rfl, rfl, pal_tree (pal_spec x (h _ rfl))⟩)
noncomputable def consFkM : List (Con Try.prog) := [pal_con, fen_con.freezeO] ++ consFkL
end Go.Proofs.Ytcpbiijegbbafaa
