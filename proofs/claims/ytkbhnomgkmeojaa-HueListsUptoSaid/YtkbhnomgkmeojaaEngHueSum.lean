/- The sum of any lights. No condition. -/
import Derived.Test.YtkbhnomgkmeojaaEngHue
set_option linter.unusedVariables false
set_option linter.unusedSimpArgs false
namespace Go.Proofs.Ytkbhnomgkmeojaa
open Go.RowKit

noncomputable def hsum_L0_S (x0 : List (List Ct)) (v : Int × Int × Int × Int) : St := ⟨[.sv (.one (.ext 0)), .dead, .sv (.one (.ptr 1 0)), .sv (.one (.ptr 2 0)), .dead, .dead, .sv (.one (.ext 0)), .sv (.one (.val false (.int .i64 (↑x0.length : Int)))), .sv (.one (.val false (.int .i64 v.1))), .dead, .dead, .dead, .dead, .dead, .dead, .dead, .dead], [(0, .grid ([Sh.int IntKind.i64, Sh.int IntKind.i64, Sh.int IntKind.i64]) x0), (1, .cells [.val true (.int .i64 0), .val true (.int .i64 0), .val true (.int .i64 0)] 28), (2, .cells [.val false (.int .i64 v.2.1), .val false (.int .i64 v.2.2.1), .val false (.int .i64 v.2.2.2)] 28)], 3, []⟩
noncomputable def hsum_L0_T (x0 : List (List Ct)) (v : Int × Int × Int × Int) : Ex × St := ((.exit 0), ⟨[.sv (.one (.ext 0)), .dead, .sv (.one (.ptr 1 0)), .sv (.one (.ptr 2 0)), .dead, .dead, .sv (.one (.ext 0)), .sv (.one (.val false (.int .i64 (↑x0.length : Int)))), .sv (.one (.val false (.int .i64 v.1))), .dead, .dead, .dead, .dead, .dead, .dead, .dead, .dead], [(0, .grid ([Sh.int IntKind.i64, Sh.int IntKind.i64, Sh.int IntKind.i64]) x0), (1, .cells [.val true (.int .i64 0), .val true (.int .i64 0), .val true (.int .i64 0)] 28), (2, .cells [.val false (.int .i64 v.2.1), .val false (.int .i64 v.2.2.1), .val false (.int .i64 v.2.2.2)] 28)], 4, []⟩)
noncomputable def hsum_L0_rd (ex : Ex) (s : St) : Option ((Int × Int × Int × Int) ⊕ (Int × Int × Int × Int)) × List (Nat × Option Nat) := match ex with
  | .normal => (some (.inl (rI (frC s 8 0), rI (hpC s 2 0), rI (hpC s 2 1), rI (hpC s 2 2))), [(1, some 1), (2, some 2)])
  | .exit i => bif Nat.beq i 0 then (some (.inr (rI (frC s 8 0), rI (hpC s 2 0), rI (hpC s 2 1), rI (hpC s 2 2))), [(1, some 1), (2, some 2)]) else (none, [])
  | _ => (none, [])
noncomputable def hsum_L0_step (x0 : List (List Ct)) : (Int × Int × Int × Int) → Option ((Int × Int × Int × Int) ⊕ (Int × Int × Int × Int)) := fun v => match v with
  | (vi0, vi1, vi2, vi3) => bif (decide (vi0 < (↑x0.length : Int))) then (bif (decide ((0 : Int) ≤ vi0 ∧ vi0 < (↑x0.length : Int))) then some (.inl (IntKind.i64.wrap (vi0 + (1 : Int)), (hadd_v vi1 vi2 vi3 (rd x0 vi0.toNat 0).int (rd x0 vi0.toNat 1).int (rd x0 vi0.toNat 2).int).fst, (hadd_v vi1 vi2 vi3 (rd x0 vi0.toNat 0).int (rd x0 vi0.toNat 1).int (rd x0 vi0.toNat 2).int).snd.fst, (hadd_v vi1 vi2 vi3 (rd x0 vi0.toNat 0).int (rd x0 vi0.toNat 1).int (rd x0 vi0.toNat 2).int).snd.snd)) else none) else some (.inr (vi0, vi1, vi2, vi3))
noncomputable def hsum_L0_c : Code := loopC Try.prog 19 0
set_option maxRecDepth 100000 in
theorem hsum_L0_ok (x0 : List (List Ct)) : ∀ v, StepOk Try.prog 1 hsum_L0_c (hsum_L0_S x0) (hsum_L0_T x0) v (hsum_L0_step x0 v) := fun v => match v with | (vi0, vi1, vi2, vi3) => eng_step (C := (⟨consHue, fun _ _ _ => none, fun f => false, noFacts, fun _ => 4⟩ : Cfg Try.prog)) noFacts_ok (n := 30) (f := 19) hsum_L0_rd (fun _ => rfl) (by kernel_rfl)
noncomputable def hsum_L0_p (x0 : List (List Ct)) : Bool := (iter (hsum_L0_step x0) (x0.length + 1) (0, 0, 0, 0)).isSome
noncomputable def hsum_L0_v (x0 : List (List Ct)) : Int × Int × Int × Int := loopRes (hsum_L0_step x0) (x0.length + 1) (0, 0, 0, 0)
noncomputable def hsum_L0_lc (x0 : List (List Ct)) : LoopCon Try.prog := loopCon Try.prog 1 hsum_L0_c [(1, some 1), (2, some 2)] (hsum_L0_S x0) (hsum_L0_T x0) 0 (hsum_L0_step x0) (hsum_L0_ok x0) (x0.length + 1) (0, 0, 0, 0) (hsum_L0_p x0) rfl (hsum_L0_v x0) rfl
noncomputable def hsum_L0_F (x0 : List (List Ct)) (k : Nat) (a : Int × Int × Int) : Int × Int × Int := ((hadd_v a.1 a.2.1 a.2.2 (rd x0 k 0).int (rd x0 k 1).int (rd x0 k 2).int).fst, (hadd_v a.1 a.2.1 a.2.2 (rd x0 k 0).int (rd x0 k 1).int (rd x0 k 2).int).snd.fst, (hadd_v a.1 a.2.1 a.2.2 (rd x0 k 0).int (rd x0 k 1).int (rd x0 k 2).int).snd.snd)
theorem hsum_L0_done (x0 : List (List Ct)) (hn : x0.length ≤ 9223372036854775000)  : hsum_L0_p x0 = true ∧ hsum_L0_v x0 = (fun (a : Int × Int × Int) => (((x0.length : Nat) : Int), a.1, a.2.1, a.2.2)) (nfold (hsum_L0_F x0) (x0.length) (0, 0, 0)) := by
  have := iter_range (step := hsum_L0_step x0) (A := Int × Int × Int) (fun (k : Nat) (a : Int × Int × Int) => ((k : Int), a.1, a.2.1, a.2.2)) (fun _ _ => True) (f := hsum_L0_F x0) (out := fun (a : Int × Int × Int) => (((x0.length : Nat) : Int), a.1, a.2.1, a.2.2)) (n := x0.length) (m := x0.length + 1) (v := (0, 0, 0, 0)) (a0 := (0, 0, 0)) rfl (by omega)
    (fun k hk a hi => ⟨by
      simp [hsum_L0_step, hsum_L0_F, hk, wrap_in (n := (k : Int) + 1) (by omega) (by omega)], trivial⟩)
    (fun a hi => by
      simp [hsum_L0_step]) trivial
  exact ⟨by unfold hsum_L0_p; rw [this, Option.isSome_some], by unfold hsum_L0_v loopRes; rw [this, Option.getD_some]⟩
noncomputable def hsum_O (v : Int × Int × Int) : Out := ⟨.sv (.agg [.val false (.int .i64 v.1), .val false (.int .i64 v.2.1), .val false (.int .i64 v.2.2)]), [], 4, []⟩
noncomputable def hsum_rd (out : Out) : Option (Int × Int × Int) := some (rI (rvC out.v 0 0), rI (rvC out.v 0 1), rI (rvC out.v 0 2))
noncomputable def hsum_res (x0 : List (List Ct)) : Option (Int × Int × Int) := bif (hsum_L0_p x0) then some ((hsum_L0_v x0).snd.fst, (hsum_L0_v x0).snd.snd.fst, (hsum_L0_v x0).snd.snd.snd) else none
set_option maxRecDepth 100000 in
theorem hsum_tree {x0 : List (List Ct)} {v : Int × Int × Int} (h : hsum_res x0 = some v) : CallOk Try.prog 19 [.sv (.one (.ext 0))] [(0, .grid [.int .i64, .int .i64, .int .i64] x0)] 1 (hsum_O v) :=
  eng_tree (C := (⟨consHue, fun f id nx => bif Nat.beq f 19 then (bif Nat.beq id 0 then some (hsum_L0_lc x0) else none) else none, fun f => false, noFacts, fun _ => 4⟩ : Cfg Try.prog)) noFacts_ok (n := 30) (f := 19) hsum_O hsum_rd rfl (by kernel_rfl) h
noncomputable def hsum_v (x0 : List (List Ct)) : Int × Int × Int := nfold (hsum_L0_F x0) (x0.length) (0, 0, 0)
theorem hsum_spec (x0 : List (List Ct)) (h : (decide (x0.length ≤ 9223372036854775000)) = true) : hsum_res x0 = some (hsum_v x0) := by
  have h := of_decide_eq_true h
  obtain ⟨h1, h2⟩ := hsum_L0_done x0 h
  simp [hsum_res, hsum_v, h1, h2]
noncomputable def hsum_m (args : List RV) (hp : Hp) : Option ((List (List Ct)) × List Nat) := match args with
  | [.sv (.one (.ext i0))] => (match gridAt hp i0 [.int .i64, .int .i64, .int .i64] with
    | some x0 => some (x0, [i0])
    | _ => none)
  | _ => none
noncomputable def hsum_con : Con Try.prog := conX Try.prog 19 hsum_m 1 (fun x => [.sv (.one (.ext 0))]) (fun x => [(0, .grid [.int .i64, .int .i64, .int .i64] x)]) (fun x => some (decide (x.length ≤ 9223372036854775000))) (fun x => hsum_O (hsum_v x))
  (by
    intro args hp x r h
    unfold hsum_m at h
    split at h
    · split at h
      · rename_i g0
        cases h
        refine ⟨rfl, fun nx => ⟨rfl, ?_, ?_⟩⟩
        · intro i hi
          simp only [List.mem_cons, List.not_mem_nil, or_false] at hi
          rcases hi with rfl
          · exact ⟨_, List.mem_of_getElem? (i := 0) rfl, .inl (by simp [RV.ids, SV.ids, CV.ids])⟩
        · intro id o0 ho
          have := hlook_mem ho
          simp only [List.mem_cons, Prod.mk.injEq, List.not_mem_nil, or_false] at this
          rcases this with ⟨rfl, rfl⟩
          · exact ⟨_, gridAt_spec g0, rfl⟩
      · cases h
    · cases h)
  (fun x h => ⟨rfl, rfl, hsum_tree (hsum_spec x (h _ rfl))⟩)
noncomputable def consHueSum : List (Con Try.prog) := [hsum_con.freeze] ++ consHue
end Go.Proofs.Ytkbhnomgkmeojaa
