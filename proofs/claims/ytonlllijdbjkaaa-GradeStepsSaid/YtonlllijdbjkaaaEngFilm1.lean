/- Sheets to and fro. No condition. -/
import Derived.Test.YtonlllijdbjkaaaEngHue
import Derived.Test.YtonlllijdbjkaaaEngG
set_option linter.unusedVariables false
set_option linter.unusedSimpArgs false
namespace Go.Proofs.Ytonlllijdbjkaaa
open Go.RowKit

noncomputable def tsh_L0_S (x0_0 : Int) (x0_1 : Int) (x0_2 : List (List Ct)) (v : Int × List (List Ct)) : St := ⟨[.sv (.agg [.q x0_0, .q x0_1, .ext 0]), .o (.ptr 1 0), .o (.ptr 2 0), .o (.ptr 3 0), .d, .d, .o (.ptr 1 0), .o (.q x0_0), .o (.ptr 1 1), .o (.q x0_1), .sv (.agg [.q x0_0, .q x0_1]), .sv (.agg [.q x0_0, .q x0_1, .val true (Value.slice none 0 0)]), .o (.ptr 1 2), .o (.ext 0), .o (.q (↑x0_2.length : Int)), .o (.q v.1), .d, .d, .d, .d, .d, .d, .d, .d, .d, .d, .d, .d], [(0, .grid ([Sh.int IntKind.i64, Sh.int IntKind.i64, Sh.int IntKind.i64]) x0_2), (1, .cells [.q x0_0, .q x0_1, .ext 0] 63), (2, .cells [.val true (.int .i64 0), .val true (.int .i64 0), .val true (Value.slice none 0 0)] 73), (3, .cells [.q x0_0, .q x0_1, .ext 4] 73), (4, .row ([Sh.int IntKind.i64, Sh.int IntKind.i64, Sh.int IntKind.i64]) 103 v.2)], 5, []⟩
noncomputable def tsh_L0_T (x0_0 : Int) (x0_1 : Int) (x0_2 : List (List Ct)) (v : Int × List (List Ct)) : Ex × St := ((.exit 0), ⟨(tsh_L0_S x0_0 x0_1 x0_2 v).fr, (tsh_L0_S x0_0 x0_1 x0_2 v).hp, 6, []⟩)
noncomputable def tsh_L0_rd (ex : Ex) (s : St) : Option ((Int × List (List Ct)) ⊕ (Int × List (List Ct))) × List (Nat × Option Nat) := match ex with
  | .normal => (some (.inl (rI (frC s 15 0), rL s (hpC s 3 2))), [(1, some 1), (2, some 2), (3, some 3), rnOf 4 (hpC s 3 2)])
  | .exit i => bif Nat.beq i 0 then (some (.inr (rI (frC s 15 0), rL s (hpC s 3 2))), [(1, some 1), (2, some 2), (3, some 3), (4, some 4)]) else (none, [])
  | _ => (none, [])
noncomputable def tsh_L0_step (x0_0 : Int) (x0_1 : Int) (x0_2 : List (List Ct)) : (Int × List (List Ct)) → Option ((Int × List (List Ct)) ⊕ (Int × List (List Ct))) := fun v => match v with
  | (vi0, vl0) => bif (decide (vi0 < (↑x0_2.length : Int))) then (bif (decide ((0 : Int) ≤ vi0 ∧ vi0 < (↑x0_2.length : Int))) then bif (decide (vl0.length + [[Ct.i (hto_v (rd x0_2 vi0.toNat 0).int (rd x0_2 vi0.toNat 1).int (rd x0_2 vi0.toNat 2).int).fst, Ct.i (hto_v (rd x0_2 vi0.toNat 0).int (rd x0_2 vi0.toNat 1).int (rd x0_2 vi0.toNat 2).int).snd.fst, Ct.i (hto_v (rd x0_2 vi0.toNat 0).int (rd x0_2 vi0.toNat 1).int (rd x0_2 vi0.toNat 2).int).snd.snd]].length ≤ 9223372036854775807 ∧ (vl0.length + [[Ct.i (hto_v (rd x0_2 vi0.toNat 0).int (rd x0_2 vi0.toNat 1).int (rd x0_2 vi0.toNat 2).int).fst, Ct.i (hto_v (rd x0_2 vi0.toNat 0).int (rd x0_2 vi0.toNat 1).int (rd x0_2 vi0.toNat 2).int).snd.fst, Ct.i (hto_v (rd x0_2 vi0.toNat 0).int (rd x0_2 vi0.toNat 1).int (rd x0_2 vi0.toNat 2).int).snd.snd]].length) * 24 ≤ 140737488355328)) then some (.inl (IntKind.i64.wrap (vi0 + (1 : Int)), vl0 ++ [[Ct.i (hto_v (rd x0_2 vi0.toNat 0).int (rd x0_2 vi0.toNat 1).int (rd x0_2 vi0.toNat 2).int).fst, Ct.i (hto_v (rd x0_2 vi0.toNat 0).int (rd x0_2 vi0.toNat 1).int (rd x0_2 vi0.toNat 2).int).snd.fst, Ct.i (hto_v (rd x0_2 vi0.toNat 0).int (rd x0_2 vi0.toNat 1).int (rd x0_2 vi0.toNat 2).int).snd.snd]])) else none else none) else some (.inr (vi0, vl0))
noncomputable def tsh_L0_c : Code := loopC Try.prog 30 0
set_option maxRecDepth 100000 in
theorem tsh_L0_ok (x0_0 : Int) (x0_1 : Int) (x0_2 : List (List Ct)) : ∀ v, StepOk Try.prog 1 tsh_L0_c (tsh_L0_S x0_0 x0_1 x0_2) (tsh_L0_T x0_0 x0_1 x0_2) v (tsh_L0_step x0_0 x0_1 x0_2 v) := fun v => match v with | (vi0, vl0) => eng_step (C := (⟨consHue, fun _ _ _ => none, fun f => ⟨false, Nat.beq f 30⟩, noFacts, fun _ => 4⟩ : Cfg Try.prog)) noFacts_ok (n := 30) (f := 30) tsh_L0_rd (fun _ => rfl) (by kernel_rfl)
noncomputable def tsh_L0_p (x0_0 : Int) (x0_1 : Int) (x0_2 : List (List Ct)) : Bool := (iter (tsh_L0_step x0_0 x0_1 x0_2) (x0_2.length + 1) (0, [])).isSome
noncomputable def tsh_L0_v (x0_0 : Int) (x0_1 : Int) (x0_2 : List (List Ct)) : Int × List (List Ct) := loopRes (tsh_L0_step x0_0 x0_1 x0_2) (x0_2.length + 1) (0, [])
set_option maxRecDepth 100000 in
noncomputable def tsh_L0_lc (x0_0 : Int) (x0_1 : Int) (x0_2 : List (List Ct)) : LoopCon Try.prog := loopCon Try.prog 1 tsh_L0_c [(1, some 1), (2, some 2), (3, some 3), (4, none)] (tsh_L0_S x0_0 x0_1 x0_2) (tsh_L0_T x0_0 x0_1 x0_2) 0 (tsh_L0_step x0_0 x0_1 x0_2) (tsh_L0_ok x0_0 x0_1 x0_2) (x0_2.length + 1) (0, []) (tsh_L0_p x0_0 x0_1 x0_2) rfl (tsh_L0_v x0_0 x0_1 x0_2) rfl
noncomputable def tsh_L0_F (x0_0 : Int) (x0_1 : Int) (x0_2 : List (List Ct)) (k : Nat) (a : List (List Ct)) : List (List Ct) := a ++ [[Ct.i (hto_v (rd x0_2 k 0).int (rd x0_2 k 1).int (rd x0_2 k 2).int).fst, Ct.i (hto_v (rd x0_2 k 0).int (rd x0_2 k 1).int (rd x0_2 k 2).int).snd.fst, Ct.i (hto_v (rd x0_2 k 0).int (rd x0_2 k 1).int (rd x0_2 k 2).int).snd.snd]]
theorem tsh_L0_done (x0_0 : Int) (x0_1 : Int) (x0_2 : List (List Ct)) (hn : x0_2.length ≤ 9223372036854775000) (hb : x0_2.length ≤ 1048576) : tsh_L0_p x0_0 x0_1 x0_2 = true ∧ tsh_L0_v x0_0 x0_1 x0_2 = (fun (a : List (List Ct)) => (((x0_2.length : Nat) : Int), a)) (nfold (tsh_L0_F x0_0 x0_1 x0_2) (x0_2.length) ([])) := by
  have := iter_range (step := tsh_L0_step x0_0 x0_1 x0_2) (A := List (List Ct)) (fun (k : Nat) (a : List (List Ct)) => ((k : Int), a)) (fun k a => a.length = k) (f := tsh_L0_F x0_0 x0_1 x0_2) (out := fun (a : List (List Ct)) => (((x0_2.length : Nat) : Int), a)) (n := x0_2.length) (m := x0_2.length + 1) (v := (0, [])) (a0 := []) rfl (by omega)
    (fun k hk a hi => ⟨by
      have hi : a.length = k := hi
      have e3 : a.length + 1 ≤ 9223372036854775807 ∧ (a.length + 1) * 24 ≤ 140737488355328 := by omega
      simp [tsh_L0_step, tsh_L0_F, hk, wrap_in (n := (k : Int) + 1) (by omega) (by omega), e3.1, e3.2], by simpa [tsh_L0_F] using hi⟩)
    (fun a hi => by
      simp [tsh_L0_step]) rfl
  exact ⟨by unfold tsh_L0_p; rw [this, Option.isSome_some], by unfold tsh_L0_v loopRes; rw [this, Option.getD_some]⟩
noncomputable def tsh_O (v : Int × Int × List (List Ct)) : Out := ⟨.sv (.agg [.val false (.int .i64 v.1), .val false (.int .i64 v.2.1), .ext 4]), [(4, .row ([Sh.int IntKind.i64, Sh.int IntKind.i64, Sh.int IntKind.i64]) 103 v.2.2)], 6, []⟩
noncomputable def tsh_rd (out : Out) : Option (Int × Int × List (List Ct)) := some (rI (rvC out.v 0 0), rI (rvC out.v 0 1), hpL' out.up 4)
noncomputable def tsh_res (x0_0 : Int) (x0_1 : Int) (x0_2 : List (List Ct)) : Option (Int × Int × List (List Ct)) := bif (tsh_L0_p x0_0 x0_1 x0_2) then some (x0_0, x0_1, (tsh_L0_v x0_0 x0_1 x0_2).snd) else none
set_option maxRecDepth 100000 in
theorem tsh_tree {x0_0 : Int} {x0_1 : Int} {x0_2 : List (List Ct)} {v : Int × Int × List (List Ct)} (h : tsh_res x0_0 x0_1 x0_2 = some v) : CallOk Try.prog 30 [.sv (.agg [.val false (.int .i64 x0_0), .val false (.int .i64 x0_1), .ext 0])] [(0, .grid [.int .i64, .int .i64, .int .i64] x0_2)] 1 (tsh_O v) :=
  eng_tree (C := (⟨consHue, fun f id nx => bif Nat.beq f 30 then (bif Nat.beq id 0 then some (tsh_L0_lc x0_0 x0_1 x0_2) else none) else none, fun f => ⟨false, Nat.beq f 30⟩, noFacts, fun _ => 4⟩ : Cfg Try.prog)) noFacts_ok (n := 30) (f := 30) tsh_O tsh_rd rfl (by kernel_rfl) h
noncomputable def tsh_v (x0_0 : Int) (x0_1 : Int) (x0_2 : List (List Ct)) : Int × Int × List (List Ct) := (x0_0, x0_1, tab (fun k => [.i (rd x0_2 k 0).int, .i (rd x0_2 k 1).int, .i (rd x0_2 k 2).int]) x0_2.length)
theorem tsh_spec (x0_0 : Int) (x0_1 : Int) (x0_2 : List (List Ct)) (h : (decide (x0_2.length ≤ 1048576)) = true) : tsh_res x0_0 x0_1 x0_2 = some (tsh_v x0_0 x0_1 x0_2) := by
  have h := of_decide_eq_true h
  obtain ⟨h1, h2⟩ := tsh_L0_done x0_0 x0_1 x0_2 (by omega) h
  have e : ∀ n, nfold (tsh_L0_F x0_0 x0_1 x0_2) n [] = tab (fun k => [.i (rd x0_2 k 0).int, .i (rd x0_2 k 1).int, .i (rd x0_2 k 2).int]) n := nfold_tab fun k a => rfl
  simp [tsh_res, tsh_v, h1, h2, e]
noncomputable def tsh_m (args : List RV) (hp : Hp) : Option ((Int × Int × List (List Ct)) × List Nat) := match args with
  | [.sv (.agg [.val _ (.int .i64 x0_0), .val _ (.int .i64 x0_1), .ext i0])] => (match gridAt hp i0 [.int .i64, .int .i64, .int .i64] with
    | some x0_2 => some ((x0_0, x0_1, x0_2), [i0])
    | _ => none)
  | _ => none
noncomputable def tsh_con : Con Try.prog := conX Try.prog 30 tsh_m 1 (fun x => [.sv (.agg [.val false (.int .i64 x.1), .val false (.int .i64 x.2.1), .ext 0])]) (fun x => [(0, .grid [.int .i64, .int .i64, .int .i64] x.2.2)]) (fun x => some (decide (x.2.2.length ≤ 1048576))) (fun x => tsh_O (tsh_v x.1 x.2.1 x.2.2))
  (by
    intro args hp x r h
    unfold tsh_m at h
    split at h
    · split at h
      · rename_i g0
        cases h
        refine ⟨rfl, fun nx => ⟨rfl, ?_, ?_⟩⟩
        · intro i hi
          simp only [List.mem_cons, List.not_mem_nil, or_false] at hi
          rcases hi with rfl
          · exact ⟨_, List.mem_of_getElem? (i := 0) rfl, .inl (by simp [RV.ids, SV.ids, CV.ids])⟩
        · intro id o0 ho
          have := hlook_mem ho
          simp only [List.mem_cons, Prod.mk.injEq, List.not_mem_nil, or_false] at this
          rcases this with ⟨rfl, rfl⟩
          · exact ⟨_, gridAt_spec g0, rfl⟩
      · cases h
    · cases h)
  (fun x h => ⟨rfl, rfl, tsh_tree (tsh_spec x.1 x.2.1 x.2.2 (h _ rfl))⟩)

noncomputable def fsh_L0_S (x0_0 : Int) (x0_1 : Int) (x0_2 : List (List Ct)) (v : Int × List (List Ct)) : St := ⟨[.sv (.agg [.q x0_0, .q x0_1, .ext 0]), .o (.ptr 1 0), .o (.ptr 2 0), .o (.ptr 3 0), .d, .d, .o (.ptr 1 0), .o (.ptr 1 0), .o (.q x0_0), .o (.ptr 1 0), .o (.ptr 1 1), .o (.q x0_1), .sv (.agg [.q x0_0, .q x0_1, .val true (Value.slice none 0 0)]), .o (.ptr 1 2), .o (.ext 0), .o (.q (↑x0_2.length : Int)), .o (.q v.1), .d, .d, .d, .d, .d, .d, .d, .d, .d, .d, .d, .d], [(0, .grid ([Sh.int IntKind.i64, Sh.int IntKind.i64, Sh.int IntKind.i64]) x0_2), (1, .cells [.q x0_0, .q x0_1, .ext 0] 73), (2, .cells [.val true (.int .i64 0), .val true (.int .i64 0), .val true (Value.slice none 0 0)] 63), (3, .cells [.q x0_0, .q x0_1, .ext 4] 63), (4, .row ([Sh.int IntKind.i64, Sh.int IntKind.i64, Sh.int IntKind.i64]) 33 v.2)], 5, []⟩
noncomputable def fsh_L0_T (x0_0 : Int) (x0_1 : Int) (x0_2 : List (List Ct)) (v : Int × List (List Ct)) : Ex × St := ((.exit 0), ⟨(fsh_L0_S x0_0 x0_1 x0_2 v).fr, (fsh_L0_S x0_0 x0_1 x0_2 v).hp, 6, []⟩)
noncomputable def fsh_L0_rd (ex : Ex) (s : St) : Option ((Int × List (List Ct)) ⊕ (Int × List (List Ct))) × List (Nat × Option Nat) := match ex with
  | .normal => (some (.inl (rI (frC s 16 0), rL s (hpC s 3 2))), [(1, some 1), (2, some 2), (3, some 3), rnOf 4 (hpC s 3 2)])
  | .exit i => bif Nat.beq i 0 then (some (.inr (rI (frC s 16 0), rL s (hpC s 3 2))), [(1, some 1), (2, some 2), (3, some 3), (4, some 4)]) else (none, [])
  | _ => (none, [])
noncomputable def fsh_L0_step (x0_0 : Int) (x0_1 : Int) (x0_2 : List (List Ct)) : (Int × List (List Ct)) → Option ((Int × List (List Ct)) ⊕ (Int × List (List Ct))) := fun v => match v with
  | (vi0, vl0) => bif (decide (vi0 < (↑x0_2.length : Int))) then (bif (decide ((0 : Int) ≤ vi0 ∧ vi0 < (↑x0_2.length : Int))) then bif (decide (vl0.length + [[Ct.i (hfrom_v (rd x0_2 vi0.toNat 0).int (rd x0_2 vi0.toNat 1).int (rd x0_2 vi0.toNat 2).int).fst, Ct.i (hfrom_v (rd x0_2 vi0.toNat 0).int (rd x0_2 vi0.toNat 1).int (rd x0_2 vi0.toNat 2).int).snd.fst, Ct.i (hfrom_v (rd x0_2 vi0.toNat 0).int (rd x0_2 vi0.toNat 1).int (rd x0_2 vi0.toNat 2).int).snd.snd]].length ≤ 9223372036854775807 ∧ (vl0.length + [[Ct.i (hfrom_v (rd x0_2 vi0.toNat 0).int (rd x0_2 vi0.toNat 1).int (rd x0_2 vi0.toNat 2).int).fst, Ct.i (hfrom_v (rd x0_2 vi0.toNat 0).int (rd x0_2 vi0.toNat 1).int (rd x0_2 vi0.toNat 2).int).snd.fst, Ct.i (hfrom_v (rd x0_2 vi0.toNat 0).int (rd x0_2 vi0.toNat 1).int (rd x0_2 vi0.toNat 2).int).snd.snd]].length) * 24 ≤ 140737488355328)) then some (.inl (IntKind.i64.wrap (vi0 + (1 : Int)), vl0 ++ [[Ct.i (hfrom_v (rd x0_2 vi0.toNat 0).int (rd x0_2 vi0.toNat 1).int (rd x0_2 vi0.toNat 2).int).fst, Ct.i (hfrom_v (rd x0_2 vi0.toNat 0).int (rd x0_2 vi0.toNat 1).int (rd x0_2 vi0.toNat 2).int).snd.fst, Ct.i (hfrom_v (rd x0_2 vi0.toNat 0).int (rd x0_2 vi0.toNat 1).int (rd x0_2 vi0.toNat 2).int).snd.snd]])) else none else none) else some (.inr (vi0, vl0))
noncomputable def fsh_L0_c : Code := loopC Try.prog 34 0
set_option maxRecDepth 100000 in
theorem fsh_L0_ok (x0_0 : Int) (x0_1 : Int) (x0_2 : List (List Ct)) : ∀ v, StepOk Try.prog 1 fsh_L0_c (fsh_L0_S x0_0 x0_1 x0_2) (fsh_L0_T x0_0 x0_1 x0_2) v (fsh_L0_step x0_0 x0_1 x0_2 v) := fun v => match v with | (vi0, vl0) => eng_step (C := (⟨consHue, fun _ _ _ => none, fun f => ⟨false, Nat.beq f 34⟩, noFacts, fun _ => 4⟩ : Cfg Try.prog)) noFacts_ok (n := 30) (f := 34) fsh_L0_rd (fun _ => rfl) (by kernel_rfl)
noncomputable def fsh_L0_p (x0_0 : Int) (x0_1 : Int) (x0_2 : List (List Ct)) : Bool := (iter (fsh_L0_step x0_0 x0_1 x0_2) (x0_2.length + 1) (0, [])).isSome
noncomputable def fsh_L0_v (x0_0 : Int) (x0_1 : Int) (x0_2 : List (List Ct)) : Int × List (List Ct) := loopRes (fsh_L0_step x0_0 x0_1 x0_2) (x0_2.length + 1) (0, [])
set_option maxRecDepth 100000 in
noncomputable def fsh_L0_lc (x0_0 : Int) (x0_1 : Int) (x0_2 : List (List Ct)) : LoopCon Try.prog := loopCon Try.prog 1 fsh_L0_c [(1, some 1), (2, some 2), (3, some 3), (4, none)] (fsh_L0_S x0_0 x0_1 x0_2) (fsh_L0_T x0_0 x0_1 x0_2) 0 (fsh_L0_step x0_0 x0_1 x0_2) (fsh_L0_ok x0_0 x0_1 x0_2) (x0_2.length + 1) (0, []) (fsh_L0_p x0_0 x0_1 x0_2) rfl (fsh_L0_v x0_0 x0_1 x0_2) rfl
noncomputable def fsh_L0_F (x0_0 : Int) (x0_1 : Int) (x0_2 : List (List Ct)) (k : Nat) (a : List (List Ct)) : List (List Ct) := a ++ [[Ct.i (hfrom_v (rd x0_2 k 0).int (rd x0_2 k 1).int (rd x0_2 k 2).int).fst, Ct.i (hfrom_v (rd x0_2 k 0).int (rd x0_2 k 1).int (rd x0_2 k 2).int).snd.fst, Ct.i (hfrom_v (rd x0_2 k 0).int (rd x0_2 k 1).int (rd x0_2 k 2).int).snd.snd]]
theorem fsh_L0_done (x0_0 : Int) (x0_1 : Int) (x0_2 : List (List Ct)) (hn : x0_2.length ≤ 9223372036854775000) (hb : x0_2.length ≤ 1048576) : fsh_L0_p x0_0 x0_1 x0_2 = true ∧ fsh_L0_v x0_0 x0_1 x0_2 = (fun (a : List (List Ct)) => (((x0_2.length : Nat) : Int), a)) (nfold (fsh_L0_F x0_0 x0_1 x0_2) (x0_2.length) ([])) := by
  have := iter_range (step := fsh_L0_step x0_0 x0_1 x0_2) (A := List (List Ct)) (fun (k : Nat) (a : List (List Ct)) => ((k : Int), a)) (fun k a => a.length = k) (f := fsh_L0_F x0_0 x0_1 x0_2) (out := fun (a : List (List Ct)) => (((x0_2.length : Nat) : Int), a)) (n := x0_2.length) (m := x0_2.length + 1) (v := (0, [])) (a0 := []) rfl (by omega)
    (fun k hk a hi => ⟨by
      have hi : a.length = k := hi
      have e3 : a.length + 1 ≤ 9223372036854775807 ∧ (a.length + 1) * 24 ≤ 140737488355328 := by omega
      simp [fsh_L0_step, fsh_L0_F, hk, wrap_in (n := (k : Int) + 1) (by omega) (by omega), e3.1, e3.2], by simpa [fsh_L0_F] using hi⟩)
    (fun a hi => by
      simp [fsh_L0_step]) rfl
  exact ⟨by unfold fsh_L0_p; rw [this, Option.isSome_some], by unfold fsh_L0_v loopRes; rw [this, Option.getD_some]⟩
noncomputable def fsh_O (v : Int × Int × List (List Ct)) : Out := ⟨.sv (.agg [.val false (.int .i64 v.1), .val false (.int .i64 v.2.1), .ext 4]), [(4, .row ([Sh.int IntKind.i64, Sh.int IntKind.i64, Sh.int IntKind.i64]) 33 v.2.2)], 6, []⟩
noncomputable def fsh_rd (out : Out) : Option (Int × Int × List (List Ct)) := some (rI (rvC out.v 0 0), rI (rvC out.v 0 1), hpL' out.up 4)
noncomputable def fsh_res (x0_0 : Int) (x0_1 : Int) (x0_2 : List (List Ct)) : Option (Int × Int × List (List Ct)) := bif (fsh_L0_p x0_0 x0_1 x0_2) then some (x0_0, x0_1, (fsh_L0_v x0_0 x0_1 x0_2).snd) else none
set_option maxRecDepth 100000 in
theorem fsh_tree {x0_0 : Int} {x0_1 : Int} {x0_2 : List (List Ct)} {v : Int × Int × List (List Ct)} (h : fsh_res x0_0 x0_1 x0_2 = some v) : CallOk Try.prog 34 [.sv (.agg [.val false (.int .i64 x0_0), .val false (.int .i64 x0_1), .ext 0])] [(0, .grid [.int .i64, .int .i64, .int .i64] x0_2)] 1 (fsh_O v) :=
  eng_tree (C := (⟨consHue, fun f id nx => bif Nat.beq f 34 then (bif Nat.beq id 0 then some (fsh_L0_lc x0_0 x0_1 x0_2) else none) else none, fun f => ⟨false, Nat.beq f 34⟩, noFacts, fun _ => 4⟩ : Cfg Try.prog)) noFacts_ok (n := 30) (f := 34) fsh_O fsh_rd rfl (by kernel_rfl) h
noncomputable def fsh_v (x0_0 : Int) (x0_1 : Int) (x0_2 : List (List Ct)) : Int × Int × List (List Ct) := (x0_0, x0_1, tab (fun k => [.i (rd x0_2 k 0).int, .i (rd x0_2 k 1).int, .i (rd x0_2 k 2).int]) x0_2.length)
theorem fsh_spec (x0_0 : Int) (x0_1 : Int) (x0_2 : List (List Ct)) (h : (decide (x0_2.length ≤ 1048576)) = true) : fsh_res x0_0 x0_1 x0_2 = some (fsh_v x0_0 x0_1 x0_2) := by
  have h := of_decide_eq_true h
  obtain ⟨h1, h2⟩ := fsh_L0_done x0_0 x0_1 x0_2 (by omega) h
  have e : ∀ n, nfold (fsh_L0_F x0_0 x0_1 x0_2) n [] = tab (fun k => [.i (rd x0_2 k 0).int, .i (rd x0_2 k 1).int, .i (rd x0_2 k 2).int]) n := nfold_tab fun k a => rfl
  simp [fsh_res, fsh_v, h1, h2, e]
noncomputable def fsh_m (args : List RV) (hp : Hp) : Option ((Int × Int × List (List Ct)) × List Nat) := match args with
  | [.sv (.agg [.val _ (.int .i64 x0_0), .val _ (.int .i64 x0_1), .ext i0])] => (match gridAt hp i0 [.int .i64, .int .i64, .int .i64] with
    | some x0_2 => some ((x0_0, x0_1, x0_2), [i0])
    | _ => none)
  | _ => none
noncomputable def fsh_con : Con Try.prog := conX Try.prog 34 fsh_m 1 (fun x => [.sv (.agg [.val false (.int .i64 x.1), .val false (.int .i64 x.2.1), .ext 0])]) (fun x => [(0, .grid [.int .i64, .int .i64, .int .i64] x.2.2)]) (fun x => some (decide (x.2.2.length ≤ 1048576))) (fun x => fsh_O (fsh_v x.1 x.2.1 x.2.2))
  (by
    intro args hp x r h
    unfold fsh_m at h
    split at h
    · split at h
      · rename_i g0
        cases h
        refine ⟨rfl, fun nx => ⟨rfl, ?_, ?_⟩⟩
        · intro i hi
          simp only [List.mem_cons, List.not_mem_nil, or_false] at hi
          rcases hi with rfl
          · exact ⟨_, List.mem_of_getElem? (i := 0) rfl, .inl (by simp [RV.ids, SV.ids, CV.ids])⟩
        · intro id o0 ho
          have := hlook_mem ho
          simp only [List.mem_cons, Prod.mk.injEq, List.not_mem_nil, or_false] at this
          rcases this with ⟨rfl, rfl⟩
          · exact ⟨_, gridAt_spec g0, rfl⟩
      · cases h
    · cases h)
  (fun x h => ⟨rfl, rfl, fsh_tree (fsh_spec x.1 x.2.1 x.2.2 (h _ rfl))⟩)
noncomputable def consFilm1 : List (Con Try.prog) := [tsh_con.freezeR, fsh_con.freezeR] ++ consHue
end Go.Proofs.Ytonlllijdbjkaaa
