/- The document's steps, done to a sheet. No condition. -/
import Derived.Test.YtonlllijdbjkaaaEngGrade4
import Derived.Test.YtonlllijdbjkaaaEngGs1
set_option linter.unusedVariables false
set_option linter.unusedSimpArgs false
namespace Go.Proofs.Ytonlllijdbjkaaa
open Go.RowKit

noncomputable def rsh_L2_S (x0_0 : Int) (x0_1 : Int) (x0_2 : List (List Ct)) (x1 : List (List Ct)) (vi0 : Int) (vl0 : List (List Ct)) (v : Int × Int × Int × Int) : St := ⟨[.sv (.agg [.q x0_0, .q x0_1, .ext 0]), .o (.ext 1), .o (.ptr 2 0), .d, .o (.ptr 3 0), .o (.ptr 4 0), .o (.q vi0), .o (.ptr 8 0), .o (.q v.1), .o (.ptr 2 0), .o (.q x0_0), .o (.ptr 2 1), .o (.q x0_1), .sv (.agg [.q x0_0, .q x0_1, .val true (Value.slice none 0 0)]), .o (.q vi0), .o (.ptr 2 2), .o (.ext 0), .o (.q (↑x0_2.length : Int)), .o (.val true (.bool true)), .d, .d, .o (.ptr 2 2), .o (.ext 0), .o (.q vi0), .o (.eptr 7 0), .sv (.agg [.q ((rd x0_2 vi0.toNat 0).int), .q ((rd x0_2 vi0.toNat 1).int), .q ((rd x0_2 vi0.toNat 2).int)]), .d, .d, .d, .d, .d, .d, .d, .d, .d, .d, .d, .d, .d, .d, .d, .d, .d, .d, .d], [(0, .grid ([Sh.int IntKind.i64, Sh.int IntKind.i64, Sh.int IntKind.i64]) x0_2), (1, .grid ([Sh.int IntKind.i64, Sh.sl [Sh.int IntKind.i64, Sh.int IntKind.i64], Sh.int IntKind.i64, Sh.int IntKind.i64, Sh.int IntKind.i64, Sh.int IntKind.i64, Sh.int IntKind.i64]) x1), (2, .cells [.q x0_0, .q x0_1, .ext 0] 63), (3, .cells [.val true (.int .i64 0), .val true (.int .i64 0), .val true (Value.slice none 0 0)] 63), (4, .cells [.q x0_0, .q x0_1, .ext 5] 63), (5, .row ([Sh.int IntKind.i64, Sh.int IntKind.i64, Sh.int IntKind.i64]) 33 vl0), (7, .elem 0 (Int.rec (fun a => (fun a => (fun n => n) a) a) (fun a => (fun a => (fun a => 0) a) a) vi0) 3), (8, .cells [.q v.2.1, .q v.2.2.1, .q v.2.2.2] 33)], 9, []⟩
noncomputable def rsh_L2_T (x0_0 : Int) (x0_1 : Int) (x0_2 : List (List Ct)) (x1 : List (List Ct)) (vi0 : Int) (vl0 : List (List Ct)) (v : Int × Int × Int × Int) : Ex × St := ((.exit 2), ⟨(rsh_L2_S x0_0 x0_1 x0_2 x1 vi0 vl0 v).fr, (rsh_L2_S x0_0 x0_1 x0_2 x1 vi0 vl0 v).hp, 10, []⟩)
noncomputable def rsh_L2_rd (ex : Ex) (s : St) : Option ((Int × Int × Int × Int) ⊕ (Int × Int × Int × Int)) × List (Nat × Option Nat) := match ex with
  | .normal => (some (.inl (rI (frC s 8 0), rI (hpC s 8 0), rI (hpC s 8 1), rI (hpC s 8 2))), [(2, some 2), (3, some 3), (4, some 4), (5, some 5), (7, some 7), (8, some 8)])
  | .exit i => bif Nat.beq i 2 then (some (.inr (rI (frC s 8 0), rI (hpC s 8 0), rI (hpC s 8 1), rI (hpC s 8 2))), [(2, some 2), (3, some 3), (4, some 4), (5, some 5), (7, some 7), (8, some 8)]) else (none, [])
  | _ => (none, [])
noncomputable def rsh_c13883424 (x1 : List (List Ct)) (wi0 : Int) (wi1 : Int) : Int := rat_v (rd x1 wi0.toNat 1).rows wi1
noncomputable def rsh_c12954277 (x1 : List (List Ct)) (wi0 : Int) (wi2 : Int) : Int := rat_v (rd x1 wi0.toNat 1).rows wi2
noncomputable def rsh_c77876471 (x1 : List (List Ct)) (wi0 : Int) (wi3 : Int) : Int := rat_v (rd x1 wi0.toNat 1).rows wi3
noncomputable def rsh_c79920004 (x1 : List (List Ct)) (wi0 wi1 wi2 wi3 : Int) : Int × Int × Int := qscale_v wi1 wi2 wi3 (rd x1 wi0.toNat 2).int
noncomputable def rsh_c11130864 (x1 : List (List Ct)) (wi0 wi1 wi2 wi3 : Int) : Int × Int × Int := qmul_v wi1 wi2 wi3 (rd x1 wi0.toNat 4).int (rd x1 wi0.toNat 5).int (rd x1 wi0.toNat 6).int
noncomputable def rsh_c35580365 (x1 : List (List Ct)) (wi0 wi1 wi2 wi3 : Int) : Int × Int × Int := qmix_v wi1 wi2 wi3 (qluma_v wi1 wi2 wi3) (qluma_v wi1 wi2 wi3) (qluma_v wi1 wi2 wi3) (rd x1 wi0.toNat 2).int
noncomputable def rsh_c97729649 (x1 : List (List Ct)) (wi0 wi1 wi2 wi3 : Int) : Int × Int × Int := qsub_v wi1 wi2 wi3 (rd x1 wi0.toNat 2).int (rd x1 wi0.toNat 2).int (rd x1 wi0.toNat 2).int
noncomputable def rsh_c25592496 (x1 : List (List Ct)) (wi0 wi1 wi2 wi3 : Int) : Int × Int × Int := qscale_v (rsh_c97729649 x1 wi0 wi1 wi2 wi3).fst (rsh_c97729649 x1 wi0 wi1 wi2 wi3).snd.fst (rsh_c97729649 x1 wi0 wi1 wi2 wi3).snd.snd (rd x1 wi0.toNat 3).int
noncomputable def rsh_c56624012 (x1 : List (List Ct)) (wi0 wi1 wi2 wi3 : Int) : Int × Int × Int := qadd_v (rd x1 wi0.toNat 2).int (rd x1 wi0.toNat 2).int (rd x1 wi0.toNat 2).int (rsh_c25592496 x1 wi0 wi1 wi2 wi3).fst (rsh_c25592496 x1 wi0 wi1 wi2 wi3).snd.fst (rsh_c25592496 x1 wi0 wi1 wi2 wi3).snd.snd
noncomputable def rsh_L2_step (x1 : List (List Ct)) : (Int × Int × Int × Int) → Option ((Int × Int × Int × Int) ⊕ (Int × Int × Int × Int)) := fun v => match v with
  | (wi0, wi1, wi2, wi3) => bif (decide (wi0 < (↑x1.length : Int))) then (bif (decide ((0 : Int) ≤ wi0 ∧ wi0 < (↑x1.length : Int))) then bif ((rd x1 wi0.toNat 0).int == (0 : Int)) then (some (.inl (IntKind.i64.wrap (wi0 + (1 : Int)), rsh_c13883424 x1 wi0 wi1, rsh_c12954277 x1 wi0 wi2, rsh_c77876471 x1 wi0 wi3))) else bif ((rd x1 wi0.toNat 0).int == (1 : Int)) then (some (.inl (IntKind.i64.wrap (wi0 + (1 : Int)), (rsh_c79920004 x1 wi0 wi1 wi2 wi3).fst, (rsh_c79920004 x1 wi0 wi1 wi2 wi3).snd.fst, (rsh_c79920004 x1 wi0 wi1 wi2 wi3).snd.snd))) else bif ((rd x1 wi0.toNat 0).int == (2 : Int)) then (some (.inl (IntKind.i64.wrap (wi0 + (1 : Int)), (rsh_c11130864 x1 wi0 wi1 wi2 wi3).fst, (rsh_c11130864 x1 wi0 wi1 wi2 wi3).snd.fst, (rsh_c11130864 x1 wi0 wi1 wi2 wi3).snd.snd))) else bif ((rd x1 wi0.toNat 0).int == (3 : Int)) then (some (.inl (IntKind.i64.wrap (wi0 + (1 : Int)), (rsh_c35580365 x1 wi0 wi1 wi2 wi3).fst, (rsh_c35580365 x1 wi0 wi1 wi2 wi3).snd.fst, (rsh_c35580365 x1 wi0 wi1 wi2 wi3).snd.snd))) else bif ((rd x1 wi0.toNat 0).int == (4 : Int)) then (some (.inl (IntKind.i64.wrap (wi0 + (1 : Int)), (rsh_c56624012 x1 wi0 wi1 wi2 wi3).fst, (rsh_c56624012 x1 wi0 wi1 wi2 wi3).snd.fst, (rsh_c56624012 x1 wi0 wi1 wi2 wi3).snd.snd))) else some (.inl (IntKind.i64.wrap (wi0 + (1 : Int)), wi1, wi2, wi3)) else none) else some (.inr (wi0, wi1, wi2, wi3))
noncomputable def rsh_L2_c : Code := loopC Try.prog 35 2
set_option maxRecDepth 100000 in
theorem rsh_L2_ok (x0_0 : Int) (x0_1 : Int) (x0_2 : List (List Ct)) (x1 : List (List Ct)) (vi0 : Int) (vl0 : List (List Ct)) : ∀ v, StepOk Try.prog 2 rsh_L2_c (rsh_L2_S x0_0 x0_1 x0_2 x1 vi0 vl0) (rsh_L2_T x0_0 x0_1 x0_2 x1 vi0 vl0) v (rsh_L2_step x1 v) := fun v => match v with | (wi0, wi1, wi2, wi3) => eng_step (C := (⟨(consGrade4 ++ consFilm1), fun _ _ _ => none, fun f => ⟨false, Nat.beq f 35⟩, noFacts, fun _ => 104⟩ : Cfg Try.prog)) noFacts_ok (n := 30) (f := 35) rsh_L2_rd (fun _ => rfl) (by kernel_rfl)
noncomputable def rsh_L2_p (x0_2 : List (List Ct)) (x1 : List (List Ct)) (vi0 : Int) : Bool := (iter (rsh_L2_step x1) (x1.length + 1) (0, ((rd x0_2 vi0.toNat 0).int), ((rd x0_2 vi0.toNat 1).int), ((rd x0_2 vi0.toNat 2).int))).isSome
noncomputable def rsh_L2_v (x0_2 : List (List Ct)) (x1 : List (List Ct)) (vi0 : Int) : Int × Int × Int × Int := loopRes (rsh_L2_step x1) (x1.length + 1) (0, ((rd x0_2 vi0.toNat 0).int), ((rd x0_2 vi0.toNat 1).int), ((rd x0_2 vi0.toNat 2).int))
set_option maxRecDepth 100000 in
noncomputable def rsh_L2_lc (x0_0 : Int) (x0_1 : Int) (x0_2 : List (List Ct)) (x1 : List (List Ct)) (vi0 : Int) (vl0 : List (List Ct)) : LoopCon Try.prog := loopCon Try.prog 2 rsh_L2_c [(2, some 2), (3, some 3), (4, some 4), (5, some 5), (7, some 7), (8, some 8)] (rsh_L2_S x0_0 x0_1 x0_2 x1 vi0 vl0) (rsh_L2_T x0_0 x0_1 x0_2 x1 vi0 vl0) 2 (rsh_L2_step x1) (rsh_L2_ok x0_0 x0_1 x0_2 x1 vi0 vl0) (x1.length + 1) (0, ((rd x0_2 vi0.toNat 0).int), ((rd x0_2 vi0.toNat 1).int), ((rd x0_2 vi0.toNat 2).int)) (rsh_L2_p x0_2 x1 vi0) rfl (rsh_L2_v x0_2 x1 vi0) rfl
noncomputable def rsh_L0_S (x0_0 : Int) (x0_1 : Int) (x0_2 : List (List Ct)) (x1 : List (List Ct)) (v : Int × List (List Ct)) : St := ⟨[.sv (.agg [.q x0_0, .q x0_1, .ext 0]), .o (.ext 1), .o (.ptr 2 0), .d, .o (.ptr 3 0), .o (.ptr 4 0), .o (.q v.1), .d, .d, .o (.ptr 2 0), .o (.q x0_0), .o (.ptr 2 1), .o (.q x0_1), .sv (.agg [.q x0_0, .q x0_1, .val true (Value.slice none 0 0)]), .d, .d, .d, .d, .d, .d, .d, .d, .d, .d, .d, .d, .d, .d, .d, .d, .d, .d, .d, .d, .d, .d, .d, .d, .d, .d, .d, .d, .d, .d, .d], [(0, .grid ([Sh.int IntKind.i64, Sh.int IntKind.i64, Sh.int IntKind.i64]) x0_2), (1, .grid ([Sh.int IntKind.i64, Sh.sl [Sh.int IntKind.i64, Sh.int IntKind.i64], Sh.int IntKind.i64, Sh.int IntKind.i64, Sh.int IntKind.i64, Sh.int IntKind.i64, Sh.int IntKind.i64]) x1), (2, .cells [.q x0_0, .q x0_1, .ext 0] 63), (3, .cells [.val true (.int .i64 0), .val true (.int .i64 0), .val true (Value.slice none 0 0)] 63), (4, .cells [.q x0_0, .q x0_1, .ext 5] 63), (5, .row ([Sh.int IntKind.i64, Sh.int IntKind.i64, Sh.int IntKind.i64]) 33 v.2)], 6, []⟩
noncomputable def rsh_L0_T (x0_0 : Int) (x0_1 : Int) (x0_2 : List (List Ct)) (x1 : List (List Ct)) (v : Int × List (List Ct)) : Ex × St := ((.exit 0), ⟨(rsh_L0_S x0_0 x0_1 x0_2 x1 v).fr, (rsh_L0_S x0_0 x0_1 x0_2 x1 v).hp, 7, []⟩)
noncomputable def rsh_L0_rd (ex : Ex) (s : St) : Option ((Int × List (List Ct)) ⊕ (Int × List (List Ct))) × List (Nat × Option Nat) := match ex with
  | .normal => (some (.inl (rI (frC s 6 0), rL s (hpC s 4 2))), [(2, some 2), (3, some 3), (4, some 4), rnOf 5 (hpC s 4 2)])
  | .exit i => bif Nat.beq i 0 then (some (.inr (rI (frC s 6 0), rL s (hpC s 4 2))), [(2, some 2), (3, some 3), (4, some 4), (5, some 5)]) else (none, [])
  | _ => (none, [])
noncomputable def rsh_L0_step (x0_2 : List (List Ct)) (x1 : List (List Ct)) : (Int × List (List Ct)) → Option ((Int × List (List Ct)) ⊕ (Int × List (List Ct))) := fun v => match v with
  | (vi0, vl0) => bif (decide (vi0 < (↑x0_2.length : Int))) then (bif (decide ((0 : Int) ≤ vi0 ∧ vi0 < (↑x0_2.length : Int))) then bif (rsh_L2_p x0_2 x1 vi0) then bif (decide (vl0.length + [[Ct.i (rsh_L2_v x0_2 x1 vi0).snd.fst, Ct.i (rsh_L2_v x0_2 x1 vi0).snd.snd.fst, Ct.i (rsh_L2_v x0_2 x1 vi0).snd.snd.snd]].length ≤ 9223372036854775807 ∧ (vl0.length + [[Ct.i (rsh_L2_v x0_2 x1 vi0).snd.fst, Ct.i (rsh_L2_v x0_2 x1 vi0).snd.snd.fst, Ct.i (rsh_L2_v x0_2 x1 vi0).snd.snd.snd]].length) * 24 ≤ 140737488355328)) then some (.inl (IntKind.i64.wrap (vi0 + (1 : Int)), vl0 ++ [[Ct.i (rsh_L2_v x0_2 x1 vi0).snd.fst, Ct.i (rsh_L2_v x0_2 x1 vi0).snd.snd.fst, Ct.i (rsh_L2_v x0_2 x1 vi0).snd.snd.snd]])) else none else none else none) else some (.inr (vi0, vl0))
noncomputable def rsh_L0_c : Code := loopC Try.prog 35 0
set_option maxRecDepth 100000 in
theorem rsh_L0_ok (x0_0 : Int) (x0_1 : Int) (x0_2 : List (List Ct)) (x1 : List (List Ct)) : ∀ v, StepOk Try.prog 2 rsh_L0_c (rsh_L0_S x0_0 x0_1 x0_2 x1) (rsh_L0_T x0_0 x0_1 x0_2 x1) v (rsh_L0_step x0_2 x1 v) := fun v => match v with | (vi0, vl0) => eng_step (C := (⟨(consGrade4 ++ consFilm1), fun f id nx => bif Nat.beq f 35 then (bif Nat.beq id 2 then some (rsh_L2_lc x0_0 x0_1 x0_2 x1 vi0 vl0) else none) else none, fun f => ⟨false, Nat.beq f 35⟩, noFacts, fun _ => 104⟩ : Cfg Try.prog)) noFacts_ok (n := 30) (f := 35) rsh_L0_rd (fun _ => rfl) (by kernel_rfl)
noncomputable def rsh_L0_p (x0_2 : List (List Ct)) (x1 : List (List Ct)) : Bool := (iter (rsh_L0_step x0_2 x1) (x0_2.length + 1) (0, [])).isSome
noncomputable def rsh_L0_v (x0_2 : List (List Ct)) (x1 : List (List Ct)) : Int × List (List Ct) := loopRes (rsh_L0_step x0_2 x1) (x0_2.length + 1) (0, [])
set_option maxRecDepth 100000 in
noncomputable def rsh_L0_lc (x0_0 : Int) (x0_1 : Int) (x0_2 : List (List Ct)) (x1 : List (List Ct)) : LoopCon Try.prog := loopCon Try.prog 2 rsh_L0_c [(2, some 2), (3, some 3), (4, some 4), (5, none)] (rsh_L0_S x0_0 x0_1 x0_2 x1) (rsh_L0_T x0_0 x0_1 x0_2 x1) 0 (rsh_L0_step x0_2 x1) (rsh_L0_ok x0_0 x0_1 x0_2 x1) (x0_2.length + 1) (0, []) (rsh_L0_p x0_2 x1) rfl (rsh_L0_v x0_2 x1) rfl
noncomputable def rsh_O (v : Int × Int × List (List Ct)) : Out := ⟨.sv (.agg [.val false (.int .i64 v.1), .val false (.int .i64 v.2.1), .ext 5]), [(5, .row ([Sh.int IntKind.i64, Sh.int IntKind.i64, Sh.int IntKind.i64]) 33 v.2.2)], 7, []⟩
noncomputable def rsh_rd (out : Out) : Option (Int × Int × List (List Ct)) := some (rI (rvC out.v 0 0), rI (rvC out.v 0 1), hpL' out.up 5)
noncomputable def rsh_res (x0_0 : Int) (x0_1 : Int) (x0_2 : List (List Ct)) (x1 : List (List Ct)) : Option (Int × Int × List (List Ct)) := bif (rsh_L0_p x0_2 x1) then some (x0_0, x0_1, (rsh_L0_v x0_2 x1).snd) else none
set_option maxRecDepth 100000 in
theorem rsh_tree {x0_0 : Int} {x0_1 : Int} {x0_2 : List (List Ct)} {x1 : List (List Ct)} {v : Int × Int × List (List Ct)} (h : rsh_res x0_0 x0_1 x0_2 x1 = some v) : CallOk Try.prog 35 [.sv (.agg [.val false (.int .i64 x0_0), .val false (.int .i64 x0_1), .ext 0]), .sv (.one (.ext 1))] [(0, .grid [.int .i64, .int .i64, .int .i64] x0_2), (1, .grid [.int .i64, .sl [.int .i64, .int .i64], .int .i64, .int .i64, .int .i64, .int .i64, .int .i64] x1)] 2 (rsh_O v) :=
  eng_tree (C := (⟨(consGrade4 ++ consFilm1), fun f id nx => bif Nat.beq f 35 then (bif Nat.beq id 0 then some (rsh_L0_lc x0_0 x0_1 x0_2 x1) else none) else none, fun f => ⟨false, Nat.beq f 35⟩, noFacts, fun _ => 104⟩ : Cfg Try.prog)) noFacts_ok (n := 30) (f := 35) rsh_O rsh_rd rfl (by kernel_rfl) h
noncomputable def rsh_v (x0_0 : Int) (x0_1 : Int) (x0_2 : List (List Ct)) (x1 : List (List Ct)) : Int × Int × List (List Ct) := (x0_0, x0_1, (rsh_L0_v x0_2 x1).2)
theorem rsh_spec (x0_0 : Int) (x0_1 : Int) (x0_2 : List (List Ct)) (x1 : List (List Ct)) (h : (rsh_L0_p x0_2 x1) = true) : rsh_res x0_0 x0_1 x0_2 x1 = some (rsh_v x0_0 x0_1 x0_2 x1) := by unfold rsh_res rsh_v; rw [h]; rfl
noncomputable def rsh_m (args : List RV) (hp : Hp) : Option ((Int × Int × List (List Ct) × List (List Ct)) × List Nat) := match args with
  | [.sv (.agg [.val _ (.int .i64 x0_0), .val _ (.int .i64 x0_1), .ext i0]), .sv (.one (.ext i1))] => (match gridAt hp i0 [.int .i64, .int .i64, .int .i64], gridAt hp i1 [.int .i64, .sl [.int .i64, .int .i64], .int .i64, .int .i64, .int .i64, .int .i64, .int .i64] with
    | some x0_2, some x1 => some ((x0_0, x0_1, x0_2, x1), [i0, i1])
    | _, _ => none)
  | _ => none
noncomputable def rsh_con : Con Try.prog := conX Try.prog 35 rsh_m 2 (fun x => [.sv (.agg [.val false (.int .i64 x.1), .val false (.int .i64 x.2.1), .ext 0]), .sv (.one (.ext 1))]) (fun x => [(0, .grid [.int .i64, .int .i64, .int .i64] x.2.2.1), (1, .grid [.int .i64, .sl [.int .i64, .int .i64], .int .i64, .int .i64, .int .i64, .int .i64, .int .i64] x.2.2.2)]) (fun x => some (rsh_L0_p x.2.2.1 x.2.2.2)) (fun x => rsh_O (rsh_v x.1 x.2.1 x.2.2.1 x.2.2.2))
  (by
    intro args hp x r h
    unfold rsh_m at h
    split at h
    · split at h
      · rename_i g0 g1
        cases h
        refine ⟨rfl, fun nx => ⟨rfl, ?_, ?_⟩⟩
        · intro i hi
          simp only [List.mem_cons, List.not_mem_nil, or_false] at hi
          rcases hi with rfl | rfl
          · exact ⟨_, List.mem_of_getElem? (i := 0) rfl, .inl (by simp [RV.ids, SV.ids, CV.ids])⟩
          · exact ⟨_, List.mem_of_getElem? (i := 1) rfl, .inl (by simp [RV.ids, SV.ids, CV.ids])⟩
        · intro id o0 ho
          have := hlook_mem ho
          simp only [List.mem_cons, Prod.mk.injEq, List.not_mem_nil, or_false] at this
          rcases this with ⟨rfl, rfl⟩ | ⟨rfl, rfl⟩
          · exact ⟨_, gridAt_spec g0, rfl⟩
          · exact ⟨_, gridAt_spec g1, rfl⟩
      · cases h
    · cases h)
  (fun x h => ⟨rfl, rfl, rsh_tree (rsh_spec x.1 x.2.1 x.2.2.1 x.2.2.2 (h _ rfl))⟩)
end Go.Proofs.Ytonlllijdbjkaaa
