/- The law's pairs; the example of layer 13 holds. No condition. -/
import Derived.Test.YtpfaejbdbdjhhaaEngTrE
set_option linter.unusedVariables false
set_option linter.unusedSimpArgs false
namespace Go.Proofs.Ytpfaejbdbdjhhaa
open Go.RowKit

noncomputable def lpa_L0_S (x0 : List (List Ct)) (v : Int × List (List Ct)) : St := ⟨[.o (.ext 0), .d, .o (.val true (Value.slice none 0 0)), .o (.ext 1), .d, .d, .o (.ext 0), .o (.q (↑x0.length : Int)), .o (.q v.1), .d, .d, .d, .d, .d, .d, .d, .d, .d, .d], [(0, .grid ([Sh.int IntKind.i64, Sh.int IntKind.i64, Sh.int IntKind.i64, Sh.int IntKind.i64, Sh.int IntKind.i64, Sh.int IntKind.i64, Sh.int IntKind.i64, Sh.int IntKind.i64, Sh.int IntKind.i64, Sh.int IntKind.i64, Sh.int IntKind.i64, Sh.int IntKind.i64]) x0), (1, .row ([Sh.int IntKind.i64, Sh.int IntKind.i64, Sh.int IntKind.i64, Sh.int IntKind.i64, Sh.int IntKind.i64, Sh.int IntKind.i64, Sh.int IntKind.i64, Sh.int IntKind.i64, Sh.int IntKind.i64, Sh.int IntKind.i64, Sh.int IntKind.i64, Sh.int IntKind.i64]) 43 v.2)], 2, []⟩
noncomputable def lpa_L0_T (x0 : List (List Ct)) (v : Int × List (List Ct)) : Ex × St := ((.exit 0), ⟨(lpa_L0_S x0 v).fr, (lpa_L0_S x0 v).hp, 3, []⟩)
noncomputable def lpa_L0_rd (ex : Ex) (s : St) : Option ((Int × List (List Ct)) ⊕ (Int × List (List Ct))) × List (Nat × Option Nat) := match ex with
  | .normal => (some (.inl (rI (frC s 8 0), rL s (frC s 3 0))), [rnOf 1 (frC s 3 0)])
  | .exit i => bif Nat.beq i 0 then (some (.inr (rI (frC s 8 0), rL s (frC s 3 0))), [(1, some 1)]) else (none, [])
  | _ => (none, [])
noncomputable def lpa_L0_step (x0 : List (List Ct)) : (Int × List (List Ct)) → Option ((Int × List (List Ct)) ⊕ (Int × List (List Ct))) := fun v => match v with
  | (vi0, vl0) => bif (decide (vi0 < (↑x0.length : Int))) then (bif (decide ((0 : Int) ≤ vi0 ∧ vi0 < (↑x0.length : Int))) then bif (decide (vl0.length + [[Ct.i (rd x0 vi0.toNat 0).int, Ct.i (rd x0 vi0.toNat 1).int, Ct.i (rd x0 vi0.toNat 2).int, Ct.i (rd x0 vi0.toNat 3).int, Ct.i (rd x0 vi0.toNat 4).int, Ct.i (rd x0 vi0.toNat 5).int, Ct.i (rd x0 vi0.toNat 6).int, Ct.i (rd x0 vi0.toNat 7).int, Ct.i (rd x0 vi0.toNat 8).int, Ct.i (rd x0 vi0.toNat 9).int, Ct.i (rd x0 vi0.toNat 10).int, Ct.i (rd x0 vi0.toNat 11).int]].length ≤ 9223372036854775807 ∧ (vl0.length + [[Ct.i (rd x0 vi0.toNat 0).int, Ct.i (rd x0 vi0.toNat 1).int, Ct.i (rd x0 vi0.toNat 2).int, Ct.i (rd x0 vi0.toNat 3).int, Ct.i (rd x0 vi0.toNat 4).int, Ct.i (rd x0 vi0.toNat 5).int, Ct.i (rd x0 vi0.toNat 6).int, Ct.i (rd x0 vi0.toNat 7).int, Ct.i (rd x0 vi0.toNat 8).int, Ct.i (rd x0 vi0.toNat 9).int, Ct.i (rd x0 vi0.toNat 10).int, Ct.i (rd x0 vi0.toNat 11).int]].length) * 96 ≤ 140737488355328)) then some (.inl (IntKind.i64.wrap (vi0 + (1 : Int)), vl0 ++ [[Ct.i (rd x0 vi0.toNat 0).int, Ct.i (rd x0 vi0.toNat 1).int, Ct.i (rd x0 vi0.toNat 2).int, Ct.i (rd x0 vi0.toNat 3).int, Ct.i (rd x0 vi0.toNat 4).int, Ct.i (rd x0 vi0.toNat 5).int, Ct.i (rd x0 vi0.toNat 6).int, Ct.i (rd x0 vi0.toNat 7).int, Ct.i (rd x0 vi0.toNat 8).int, Ct.i (rd x0 vi0.toNat 9).int, Ct.i (rd x0 vi0.toNat 10).int, Ct.i (rd x0 vi0.toNat 11).int]])) else none else none) else some (.inr (vi0, vl0))
noncomputable def lpa_L0_c : Code := loopC Try.prog 7 0
set_option maxRecDepth 100000 in
theorem lpa_L0_ok (x0 : List (List Ct)) : ∀ v, StepOk Try.prog 1 lpa_L0_c (lpa_L0_S x0) (lpa_L0_T x0) v (lpa_L0_step x0 v) := fun v => match v with | (vi0, vl0) => eng_step (C := (⟨consTrE, fun _ _ _ => none, fun f => false, noFacts, fun _ => 0⟩ : Cfg Try.prog)) noFacts_ok (n := 30) (f := 7) lpa_L0_rd (fun _ => rfl) (by kernel_rfl)
noncomputable def lpa_L0_p (x0 : List (List Ct)) : Bool := (iter (lpa_L0_step x0) (x0.length + 1) (0, [])).isSome
noncomputable def lpa_L0_v (x0 : List (List Ct)) : Int × List (List Ct) := loopRes (lpa_L0_step x0) (x0.length + 1) (0, [])
set_option maxRecDepth 100000 in
noncomputable def lpa_L0_lc (x0 : List (List Ct)) : LoopCon Try.prog := loopCon Try.prog 1 lpa_L0_c [(1, none)] (lpa_L0_S x0) (lpa_L0_T x0) 0 (lpa_L0_step x0) (lpa_L0_ok x0) (x0.length + 1) (0, []) (lpa_L0_p x0) rfl (lpa_L0_v x0) rfl
noncomputable def lpa_O (v : List (List Ct)) : Out := ⟨.sv (.one (.ext 1)), [(1, .row ([Sh.int IntKind.i64, Sh.int IntKind.i64, Sh.int IntKind.i64, Sh.int IntKind.i64, Sh.int IntKind.i64, Sh.int IntKind.i64, Sh.int IntKind.i64, Sh.int IntKind.i64, Sh.int IntKind.i64, Sh.int IntKind.i64, Sh.int IntKind.i64, Sh.int IntKind.i64]) 43 v)], 3, []⟩
noncomputable def lpa_rd (out : Out) : Option (List (List Ct)) := some (hpL' out.up 1)
noncomputable def lpa_res (x0 : List (List Ct)) : Option (List (List Ct)) := bif (lpa_L0_p x0) then some ((lpa_L0_v x0).snd) else none
set_option maxRecDepth 100000 in
theorem lpa_tree {x0 : List (List Ct)} {v : List (List Ct)} (h : lpa_res x0 = some v) : CallOk Try.prog 7 [.sv (.one (.ext 0))] [(0, .grid [.int .i64, .int .i64, .int .i64, .int .i64, .int .i64, .int .i64, .int .i64, .int .i64, .int .i64, .int .i64, .int .i64, .int .i64] x0)] 1 (lpa_O v) :=
  eng_tree (C := (⟨consTrE, fun f id nx => bif Nat.beq f 7 then (bif Nat.beq id 0 then some (lpa_L0_lc x0) else none) else none, fun f => false, noFacts, fun _ => 0⟩ : Cfg Try.prog)) noFacts_ok (n := 30) (f := 7) lpa_O lpa_rd rfl (by kernel_rfl) h
noncomputable def lpa_v (x0 : List (List Ct)) : List (List Ct) := (lpa_res x0).getD default
theorem lpa_spec (x0 : List (List Ct)) (h : ((lpa_res x0).isSome) = true) : lpa_res x0 = some (lpa_v x0) := opt_get h
noncomputable def lpa_m (args : List RV) (hp : Hp) : Option ((List (List Ct)) × List Nat) := match args with
  | [.sv (.one (.ext i0))] => (match gridAt hp i0 [.int .i64, .int .i64, .int .i64, .int .i64, .int .i64, .int .i64, .int .i64, .int .i64, .int .i64, .int .i64, .int .i64, .int .i64] with
    | some x0 => some (x0, [i0])
    | _ => none)
  | _ => none
noncomputable def lpa_con : Con Try.prog := conX Try.prog 7 lpa_m 1 (fun x => [.sv (.one (.ext 0))]) (fun x => [(0, .grid [.int .i64, .int .i64, .int .i64, .int .i64, .int .i64, .int .i64, .int .i64, .int .i64, .int .i64, .int .i64, .int .i64, .int .i64] x)]) (fun x => some ((lpa_res x).isSome)) (fun x => lpa_O (lpa_v x))
  (by
    intro args hp x r h
    unfold lpa_m at h
    split at h
    · split at h
      · rename_i g0
        cases h
        refine ⟨rfl, fun nx => ⟨rfl, ?_, ?_⟩⟩
        · intro i hi
          simp only [List.mem_cons, List.not_mem_nil, or_false] at hi
          rcases hi with rfl
          · exact ⟨_, List.mem_of_getElem? (i := 0) rfl, .inl (by simp [RV.ids, SV.ids, CV.ids])⟩
        · intro id o0 ho
          have := hlook_mem ho
          simp only [List.mem_cons, Prod.mk.injEq, List.not_mem_nil, or_false] at this
          rcases this with ⟨rfl, rfl⟩
          · exact ⟨_, gridAt_spec g0, rfl⟩
      · cases h
    · cases h)
  (fun x h => ⟨rfl, rfl, lpa_tree (lpa_spec x (h _ rfl))⟩)

noncomputable def cfgTreeQ : Cfg Try.prog := ⟨[tma_con.freezeR, tdpd_con.freeze] ++ consTr2, fun _ _ _ => none, fun _ => ⟨false, true⟩, noFacts, fun _ => 0⟩
set_option maxRecDepth 100000 in
theorem awake13E (w : World) : Calls Try.prog 5 #[] w fun en w' => en = .returned (.bool true) ∧ Below w.heap.size w w' := eng_closed (C := cfgTreeQ) noFacts_ok (n := 30) (by kernel_rfl) w
noncomputable def consTrG : List (Con Try.prog) := [lpa_con.freezeR.freezeO, conC Try.prog 5 (.bool true) awake13E, tma_con.freezeR.freezeO, rma_con.freezeR.freezeO] ++ [tdpd_con, rdpd_con] ++ consTr2
end Go.Proofs.Ytpfaejbdbdjhhaa
