/- Trees that are made. No condition. -/
import Derived.Test.YtpfaejbdbdjhhaaEngTr7
set_option linter.unusedVariables false
set_option linter.unusedSimpArgs false
namespace Go.Proofs.Ytpfaejbdbdjhhaa
open Go.RowKit

noncomputable def tma_L0_S (x0 : List (List Ct)) (v : Int × List (List Ct) × List (List Ct)) : St := ⟨[.o (.ext 0), .d, .o (.ptr 1 0), .o (.ptr 4 0), .d, .d, .o (.ext 0), .o (.ext 3), .sv (.agg [.val true (Value.slice none 0 0), .val true (Value.slice none 0 0), .ext 3, .val true (Value.slice none 0 0)]), .o (.ptr 4 0), .o (.ext 0), .o (.q (↑x0.length : Int)), .o (.val false (.bool ((↑x0.length : Int) == (0 : Int)))), .o (.val true (.bool false)), .o (.ext 0), .o (.q (↑x0.length : Int)), .o (.val false (.bool (decide ((↑x0.length : Int) > (128 : Int))))), .o (.val true (.bool false)), .d, .o (.ext 0), .o (.q (↑x0.length : Int)), .o (.q v.1), .d, .d, .d, .d, .d, .d, .d, .d, .d, .d, .d, .d, .d, .d, .d, .d, .d, .d, .d, .d, .d, .d, .d, .d, .d, .d, .d, .d, .d, .d, .d, .d, .d, .d, .d, .d, .d], [(0, .grid ([Sh.int IntKind.i64, Sh.int IntKind.i64, Sh.int IntKind.i64, Sh.int IntKind.i64, Sh.int IntKind.i64, Sh.int IntKind.i64, Sh.int IntKind.i64, Sh.int IntKind.i64, Sh.int IntKind.i64, Sh.int IntKind.i64, Sh.int IntKind.i64, Sh.int IntKind.i64]) x0), (1, .cells [.val true (Value.slice none 0 0), .val true (Value.slice none 0 0)] 27), (3, .row ([Sh.int IntKind.i64, Sh.int IntKind.i64, Sh.int IntKind.i64, Sh.int IntKind.i64, Sh.int IntKind.i64, Sh.int IntKind.i64, Sh.int IntKind.i64, Sh.int IntKind.i64, Sh.int IntKind.i64, Sh.int IntKind.i64, Sh.int IntKind.i64, Sh.int IntKind.i64]) 43 ([] ++ x0)), (4, .cells [.val true (Value.slice none 0 0), .ext 7, .ext 3, .ext 8] 61), (7, .row ([Sh.int IntKind.i64]) 3 v.2.1), (8, .row ([Sh.int IntKind.i64, Sh.int IntKind.i64, Sh.int IntKind.i64]) 39 v.2.2)], 9, []⟩
noncomputable def tma_L0_T (x0 : List (List Ct)) (v : Int × List (List Ct) × List (List Ct)) : Ex × St := ((.exit 0), ⟨(tma_L0_S x0 v).fr, (tma_L0_S x0 v).hp, 10, []⟩)
noncomputable def tma_L0_rd (ex : Ex) (s : St) : Option ((Int × List (List Ct) × List (List Ct)) ⊕ (Int × List (List Ct) × List (List Ct))) × List (Nat × Option Nat) := match ex with
  | .normal => (some (.inl (rI (frC s 21 0), rL s (hpC s 4 1), rL s (hpC s 4 3))), [(1, some 1), (3, some 3), (4, some 4), rnOf 7 (hpC s 4 1), rnOf 8 (hpC s 4 3)])
  | .exit i => bif Nat.beq i 0 then (some (.inr (rI (frC s 21 0), rL s (hpC s 4 1), rL s (hpC s 4 3))), [(1, some 1), (3, some 3), (4, some 4), (7, some 7), (8, some 8)]) else (none, [])
  | _ => (none, [])
noncomputable def tma_c69258738 (x0 : List (List Ct)) (vi0 : Int) : Int × Int × Int × Int × Int × Int := twh_v (rd x0 vi0.toNat 0).int (rd x0 vi0.toNat 1).int (rd x0 vi0.toNat 2).int (rd x0 vi0.toNat 3).int (rd x0 vi0.toNat 4).int (rd x0 vi0.toNat 5).int (rd x0 vi0.toNat 6).int (rd x0 vi0.toNat 7).int (rd x0 vi0.toNat 8).int (rd x0 vi0.toNat 9).int (rd x0 vi0.toNat 10).int (rd x0 vi0.toNat 11).int
noncomputable def tma_c88174535 (x0 : List (List Ct)) (vi0 : Int) : Int × Int × Int := tmi_v (tma_c69258738 x0 vi0).fst (tma_c69258738 x0 vi0).snd.fst (tma_c69258738 x0 vi0).snd.snd.fst (tma_c69258738 x0 vi0).snd.snd.snd.fst (tma_c69258738 x0 vi0).snd.snd.snd.snd.fst (tma_c69258738 x0 vi0).snd.snd.snd.snd.snd
noncomputable def tma_L0_step (x0 : List (List Ct)) : (Int × List (List Ct) × List (List Ct)) → Option ((Int × List (List Ct) × List (List Ct)) ⊕ (Int × List (List Ct) × List (List Ct))) := fun v => match v with
  | (vi0, vl0, vl1) => bif (decide (vi0 < (↑x0.length : Int))) then (bif (decide ((0 : Int) ≤ vi0 ∧ vi0 < (↑x0.length : Int))) then bif (decide (vl0.length + [[Ct.i vi0]].length ≤ 9223372036854775807 ∧ (vl0.length + [[Ct.i vi0]].length) * 8 ≤ 140737488355328)) then bif (decide (vl1.length + [[Ct.i (tma_c88174535 x0 vi0).fst, Ct.i (tma_c88174535 x0 vi0).snd.fst, Ct.i (tma_c88174535 x0 vi0).snd.snd]].length ≤ 9223372036854775807 ∧ (vl1.length + [[Ct.i (tma_c88174535 x0 vi0).fst, Ct.i (tma_c88174535 x0 vi0).snd.fst, Ct.i (tma_c88174535 x0 vi0).snd.snd]].length) * 24 ≤ 140737488355328)) then some (.inl (IntKind.i64.wrap (vi0 + (1 : Int)), vl0 ++ [[Ct.i vi0]], vl1 ++ [[Ct.i (tma_c88174535 x0 vi0).fst, Ct.i (tma_c88174535 x0 vi0).snd.fst, Ct.i (tma_c88174535 x0 vi0).snd.snd]])) else none else none else none) else some (.inr (vi0, vl0, vl1))
noncomputable def tma_L0_c : Code := loopC Try.prog 6 0
set_option maxRecDepth 100000 in
theorem tma_L0_ok (x0 : List (List Ct)) : ∀ v, StepOk Try.prog 1 tma_L0_c (tma_L0_S x0) (tma_L0_T x0) v (tma_L0_step x0 v) := fun v => match v with | (vi0, vl0, vl1) => eng_step (C := (⟨consTr7, fun _ _ _ => none, fun f => false, noFacts, fun _ => 0⟩ : Cfg Try.prog)) noFacts_ok (n := 30) (f := 6) tma_L0_rd (fun _ => rfl) (by kernel_rfl)
noncomputable def tma_L0_p (x0 : List (List Ct)) : Bool := (iter (tma_L0_step x0) (x0.length + 1) (0, [], [])).isSome
noncomputable def tma_L0_v (x0 : List (List Ct)) : Int × List (List Ct) × List (List Ct) := loopRes (tma_L0_step x0) (x0.length + 1) (0, [], [])
set_option maxRecDepth 100000 in
noncomputable def tma_L0_lc (x0 : List (List Ct)) : LoopCon Try.prog := loopCon Try.prog 1 tma_L0_c [(1, some 1), (3, some 3), (4, some 4), (7, none), (8, none)] (tma_L0_S x0) (tma_L0_T x0) 0 (tma_L0_step x0) (tma_L0_ok x0) (x0.length + 1) (0, [], []) (tma_L0_p x0) rfl (tma_L0_v x0) rfl
noncomputable def tma_O (v : List (List Ct) × List (List Ct)) : Out := ⟨.sv (.agg [.ext 18, .ext 7]), [(7, .row ([Sh.int IntKind.i64]) 3 v.1), (18, .row ([Sh.int IntKind.i64, Sh.int IntKind.i64, Sh.int IntKind.i64, Sh.int IntKind.i64, Sh.int IntKind.i64, Sh.int IntKind.i64, Sh.int IntKind.i64, Sh.int IntKind.i64, Sh.int IntKind.i64, Sh.int IntKind.i64, Sh.int IntKind.i64, Sh.int IntKind.i64, Sh.int IntKind.i64, Sh.int IntKind.i64, Sh.int IntKind.i64, Sh.int IntKind.i64]) 45 v.2)], 125, []⟩
noncomputable def tma_rd (out : Out) : Option (List (List Ct) × List (List Ct)) := some (hpL' out.up 7, hpL' out.up 18)
noncomputable def tma_c56337448 (x0 : List (List Ct)) : List (List Ct) × List (List Ct) × List (List Ct) × List (List Ct) := tnn_v (tma_L0_v x0).snd.fst ([] ++ x0) (tma_L0_v x0).snd.snd (0 : Int) (↑x0.length : Int)
noncomputable def tma_res (x0 : List (List Ct)) : Option (List (List Ct) × List (List Ct)) := bif (decide (0 < x0.length)) then bif (decide (0 + x0.length ≤ 9223372036854775807 ∧ (0 + x0.length) * 96 ≤ 140737488355328)) then bif ((↑x0.length : Int) == (0 : Int)) then (some ([], [])) else bif (decide ((↑x0.length : Int) > (128 : Int))) then (some ([], [])) else bif (tma_L0_p x0) then bif ((tnn_res (tma_L0_v x0).snd.fst ([] ++ x0) (tma_L0_v x0).snd.snd (0 : Int) (↑x0.length : Int)).isSome) then some ((tma_c56337448 x0).fst, (tma_c56337448 x0).snd.snd.snd) else none else none else none else none
set_option maxRecDepth 100000 in
theorem tma_tree {x0 : List (List Ct)} {v : List (List Ct) × List (List Ct)} (h : tma_res x0 = some v) : CallOk Try.prog 6 [.sv (.one (.ext 0))] [(0, .grid [.int .i64, .int .i64, .int .i64, .int .i64, .int .i64, .int .i64, .int .i64, .int .i64, .int .i64, .int .i64, .int .i64, .int .i64] x0)] 1 (tma_O v) :=
  eng_treeN (C := (⟨consTr7, fun f id nx => bif Nat.beq f 6 then (bif Nat.beq id 0 then some (tma_L0_lc x0) else none) else none, fun f => false, noFacts, fun _ => 0⟩ : Cfg Try.prog)) noFacts_ok (n := 30) (f := 6) tma_O tma_rd rfl (by kernel_rfl) h
noncomputable def tma_v (x0 : List (List Ct)) : List (List Ct) × List (List Ct) := (tma_res x0).getD default
theorem tma_spec (x0 : List (List Ct)) (h : ((tma_res x0).isSome) = true) : tma_res x0 = some (tma_v x0) := opt_get h
noncomputable def tma_m (args : List RV) (hp : Hp) : Option ((List (List Ct)) × List Nat) := match args with
  | [.sv (.one (.ext i0))] => (match gridAt hp i0 [.int .i64, .int .i64, .int .i64, .int .i64, .int .i64, .int .i64, .int .i64, .int .i64, .int .i64, .int .i64, .int .i64, .int .i64] with
    | some x0 => some (x0, [i0])
    | _ => none)
  | _ => none
noncomputable def tma_con : Con Try.prog := conX Try.prog 6 tma_m 1 (fun x => [.sv (.one (.ext 0))]) (fun x => [(0, .grid [.int .i64, .int .i64, .int .i64, .int .i64, .int .i64, .int .i64, .int .i64, .int .i64, .int .i64, .int .i64, .int .i64, .int .i64] x)]) (fun x => some ((tma_res x).isSome)) (fun x => tma_O (tma_v x))
  (by
    intro args hp x r h
    unfold tma_m at h
    split at h
    · split at h
      · rename_i g0
        cases h
        refine ⟨rfl, fun nx => ⟨rfl, ?_, ?_⟩⟩
        · intro i hi
          simp only [List.mem_cons, List.not_mem_nil, or_false] at hi
          rcases hi with rfl
          · exact ⟨_, List.mem_of_getElem? (i := 0) rfl, .inl (by simp [RV.ids, SV.ids, CV.ids])⟩
        · intro id o0 ho
          have := hlook_mem ho
          simp only [List.mem_cons, Prod.mk.injEq, List.not_mem_nil, or_false] at this
          rcases this with ⟨rfl, rfl⟩
          · exact ⟨_, gridAt_spec g0, rfl⟩
      · cases h
    · cases h)
  (fun x h => ⟨rfl, rfl, tma_tree (tma_spec x (h _ rfl))⟩)
noncomputable def consTr8 : List (Con Try.prog) := [tma_con] ++ consTr7
end Go.Proofs.Ytpfaejbdbdjhhaa
