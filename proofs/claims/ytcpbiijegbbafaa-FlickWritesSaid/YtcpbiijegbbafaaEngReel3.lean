/- A reader's values. No condition. -/
import Derived.Test.YtcpbiijegbbafaaEngReel2
set_option linter.unusedVariables false
set_option linter.unusedSimpArgs false
namespace Go.Proofs.Ytcpbiijegbbafaa
open Go.RowKit

noncomputable def rby_T (x0_0 : List (List Ct)) (x0_1 : Int) (v : Int × Int × List (List Ct)) : St := ⟨[.d, .d, .o (.q v.1), .d, .d, .d], [(0, .cells [.ext 6, .q v.2.1] 183), (6, .grid ([Sh.int IntKind.u8]) v.2.2)], 9, [0]⟩
noncomputable def rby_O (v : Int × Int × List (List Ct)) : Out := ⟨.sv (.one (.val false (.int .i64 v.1))), [(6, .grid ([Sh.int IntKind.u8]) v.2.2), (0, .cells [.ext 6, .val false (.int .i64 v.2.1)] 183)], 9, [0]⟩
noncomputable def rby_rd (ex : Ex) (s : St) : Option (Int × Int × List (List Ct)) × List (Nat × Option Nat) := (some (rI (frC s 2 0), rI (hpC s 0 1), rL s (hpC s 0 0)), [(6, some 6)])
noncomputable def rby_res (x0_0 : List (List Ct)) (x0_1 : Int) : Option (Int × Int × List (List Ct)) := bif ((rrw_res x0_0 x0_1 (1 : Int)).isSome) then some (IntKind.i64.wrap (rrw_v x0_0 x0_1 (1 : Int)).fst, (rrw_v x0_0 x0_1 (1 : Int)).snd.fst, (rrw_v x0_0 x0_1 (1 : Int)).snd.snd) else none
set_option maxRecDepth 100000 in
theorem rby_tree {x0_0 : List (List Ct)} {x0_1 : Int} {v : Int × Int × List (List Ct)} (h : rby_res x0_0 x0_1 = some v) : CallOk Try.prog 36 [.sv (.one (.ptr 0 0))] [(0, .cells [.ext 1, .val false (.int .i64 x0_1)] 183), (1, .grid [.int .u8] x0_0)] 2 (rby_O v) :=
  eng_body (C := (⟨consReel2, fun _ _ _ => none, fun f => false, noFacts, fun _ => 0⟩ : Cfg Try.prog)) noFacts_ok (n := 30) (f := 36) (rby_T x0_0 x0_1) rby_O rby_rd rfl (fun r => rfl) (by kernel_rfl) h
noncomputable def rby_v (x0_0 : List (List Ct)) (x0_1 : Int) : Int × Int × List (List Ct) := (rby_res x0_0 x0_1).getD default
theorem rby_spec (x0_0 : List (List Ct)) (x0_1 : Int) (h : ((rby_res x0_0 x0_1).isSome) = true) : rby_res x0_0 x0_1 = some (rby_v x0_0 x0_1) := opt_get h
noncomputable def rby_as : List ASh := [.ptr 183 [.grid [.int .u8], .int .i64]]
noncomputable def rby_con : Con Try.prog := conS Try.prog 36 rby_as (fun x => some ((rby_res (x.getD 0 (.i 0)).rows (x.getD 1 (.i 0)).int).isSome)) (fun x => rby_O (rby_v (x.getD 0 (.i 0)).rows (x.getD 1 (.i 0)).int))
  (fun x h => ⟨by kernel_rfl, by kernel_rfl, Eq.mp (by kernel_rfl) (@rby_tree ((x.getD 0 (.i 0)).rows) ((x.getD 1 (.i 0)).int) _ (rby_spec ((x.getD 0 (.i 0)).rows) ((x.getD 1 (.i 0)).int) (h _ rfl)))⟩)

noncomputable def rha_T (x0_0 : List (List Ct)) (x0_1 : Int) (v : Int × Int × List (List Ct)) : St := ⟨[.d, .d, .o (.q v.1), .d, .d, .d], [(0, .cells [.ext 6, .q v.2.1] 183), (6, .grid ([Sh.int IntKind.u8]) v.2.2)], 9, [0]⟩
noncomputable def rha_O (v : Int × Int × List (List Ct)) : Out := ⟨.sv (.one (.val false (.int .i64 v.1))), [(6, .grid ([Sh.int IntKind.u8]) v.2.2), (0, .cells [.ext 6, .val false (.int .i64 v.2.1)] 183)], 9, [0]⟩
noncomputable def rha_rd (ex : Ex) (s : St) : Option (Int × Int × List (List Ct)) × List (Nat × Option Nat) := (some (rI (frC s 2 0), rI (hpC s 0 1), rL s (hpC s 0 0)), [(6, some 6)])
noncomputable def rha_res (x0_0 : List (List Ct)) (x0_1 : Int) : Option (Int × Int × List (List Ct)) := bif ((rrw_res x0_0 x0_1 (2 : Int)).isSome) then some (IntKind.i64.wrap (rrw_v x0_0 x0_1 (2 : Int)).fst, (rrw_v x0_0 x0_1 (2 : Int)).snd.fst, (rrw_v x0_0 x0_1 (2 : Int)).snd.snd) else none
set_option maxRecDepth 100000 in
theorem rha_tree {x0_0 : List (List Ct)} {x0_1 : Int} {v : Int × Int × List (List Ct)} (h : rha_res x0_0 x0_1 = some v) : CallOk Try.prog 97 [.sv (.one (.ptr 0 0))] [(0, .cells [.ext 1, .val false (.int .i64 x0_1)] 183), (1, .grid [.int .u8] x0_0)] 2 (rha_O v) :=
  eng_body (C := (⟨consReel2, fun _ _ _ => none, fun f => false, noFacts, fun _ => 0⟩ : Cfg Try.prog)) noFacts_ok (n := 30) (f := 97) (rha_T x0_0 x0_1) rha_O rha_rd rfl (fun r => rfl) (by kernel_rfl) h
noncomputable def rha_v (x0_0 : List (List Ct)) (x0_1 : Int) : Int × Int × List (List Ct) := (rha_res x0_0 x0_1).getD default
theorem rha_spec (x0_0 : List (List Ct)) (x0_1 : Int) (h : ((rha_res x0_0 x0_1).isSome) = true) : rha_res x0_0 x0_1 = some (rha_v x0_0 x0_1) := opt_get h
noncomputable def rha_as : List ASh := [.ptr 183 [.grid [.int .u8], .int .i64]]
noncomputable def rha_con : Con Try.prog := conS Try.prog 97 rha_as (fun x => some ((rha_res (x.getD 0 (.i 0)).rows (x.getD 1 (.i 0)).int).isSome)) (fun x => rha_O (rha_v (x.getD 0 (.i 0)).rows (x.getD 1 (.i 0)).int))
  (fun x h => ⟨by kernel_rfl, by kernel_rfl, Eq.mp (by kernel_rfl) (@rha_tree ((x.getD 0 (.i 0)).rows) ((x.getD 1 (.i 0)).int) _ (rha_spec ((x.getD 0 (.i 0)).rows) ((x.getD 1 (.i 0)).int) (h _ rfl)))⟩)

noncomputable def rlo_T (x0_0 : List (List Ct)) (x0_1 : Int) (v : Int × Int × List (List Ct)) : St := ⟨[.d, .d, .o (.val false (.int .u64 v.1)), .d, .d], [(0, .cells [.ext 6, .q v.2.1] 183), (6, .grid ([Sh.int IntKind.u8]) v.2.2)], 9, [0]⟩
noncomputable def rlo_O (v : Int × Int × List (List Ct)) : Out := ⟨.sv (.one (.val false (.int .u64 v.1))), [(6, .grid ([Sh.int IntKind.u8]) v.2.2), (0, .cells [.ext 6, .val false (.int .i64 v.2.1)] 183)], 9, [0]⟩
noncomputable def rlo_rd (ex : Ex) (s : St) : Option (Int × Int × List (List Ct)) × List (Nat × Option Nat) := (some (rI (frC s 2 0), rI (hpC s 0 1), rL s (hpC s 0 0)), [(6, some 6)])
noncomputable def rlo_res (x0_0 : List (List Ct)) (x0_1 : Int) : Option (Int × Int × List (List Ct)) := bif ((rrw_res x0_0 x0_1 (8 : Int)).isSome) then some ((rrw_v x0_0 x0_1 (8 : Int)).fst, (rrw_v x0_0 x0_1 (8 : Int)).snd.fst, (rrw_v x0_0 x0_1 (8 : Int)).snd.snd) else none
set_option maxRecDepth 100000 in
theorem rlo_tree {x0_0 : List (List Ct)} {x0_1 : Int} {v : Int × Int × List (List Ct)} (h : rlo_res x0_0 x0_1 = some v) : CallOk Try.prog 98 [.sv (.one (.ptr 0 0))] [(0, .cells [.ext 1, .val false (.int .i64 x0_1)] 183), (1, .grid [.int .u8] x0_0)] 2 (rlo_O v) :=
  eng_body (C := (⟨consReel2, fun _ _ _ => none, fun f => false, noFacts, fun _ => 0⟩ : Cfg Try.prog)) noFacts_ok (n := 30) (f := 98) (rlo_T x0_0 x0_1) rlo_O rlo_rd rfl (fun r => rfl) (by kernel_rfl) h
noncomputable def rlo_v (x0_0 : List (List Ct)) (x0_1 : Int) : Int × Int × List (List Ct) := (rlo_res x0_0 x0_1).getD default
theorem rlo_spec (x0_0 : List (List Ct)) (x0_1 : Int) (h : ((rlo_res x0_0 x0_1).isSome) = true) : rlo_res x0_0 x0_1 = some (rlo_v x0_0 x0_1) := opt_get h
noncomputable def rlo_as : List ASh := [.ptr 183 [.grid [.int .u8], .int .i64]]
noncomputable def rlo_con : Con Try.prog := conS Try.prog 98 rlo_as (fun x => some ((rlo_res (x.getD 0 (.i 0)).rows (x.getD 1 (.i 0)).int).isSome)) (fun x => rlo_O (rlo_v (x.getD 0 (.i 0)).rows (x.getD 1 (.i 0)).int))
  (fun x h => ⟨by kernel_rfl, by kernel_rfl, Eq.mp (by kernel_rfl) (@rlo_tree ((x.getD 0 (.i 0)).rows) ((x.getD 1 (.i 0)).int) _ (rlo_spec ((x.getD 0 (.i 0)).rows) ((x.getD 1 (.i 0)).int) (h _ rfl)))⟩)

noncomputable def rsl_T (x0_0 : List (List Ct)) (x0_1 : Int) (v : Int × Int × List (List Ct)) : St := ⟨[.d, .d, .o (.q v.1), .d, .d, .d, .d], [(0, .cells [.ext 6, .q v.2.1] 183), (6, .grid ([Sh.int IntKind.u8]) v.2.2)], 9, [0]⟩
noncomputable def rsl_O (v : Int × Int × List (List Ct)) : Out := ⟨.sv (.one (.val false (.int .i64 v.1))), [(6, .grid ([Sh.int IntKind.u8]) v.2.2), (0, .cells [.ext 6, .val false (.int .i64 v.2.1)] 183)], 9, [0]⟩
noncomputable def rsl_rd (ex : Ex) (s : St) : Option (Int × Int × List (List Ct)) × List (Nat × Option Nat) := (some (rI (frC s 2 0), rI (hpC s 0 1), rL s (hpC s 0 0)), [(6, some 6)])
noncomputable def rsl_res (x0_0 : List (List Ct)) (x0_1 : Int) : Option (Int × Int × List (List Ct)) := bif ((rrw_res x0_0 x0_1 (2 : Int)).isSome) then some (IntKind.i64.wrap (IntKind.i16.wrap (rrw_v x0_0 x0_1 (2 : Int)).fst), (rrw_v x0_0 x0_1 (2 : Int)).snd.fst, (rrw_v x0_0 x0_1 (2 : Int)).snd.snd) else none
set_option maxRecDepth 100000 in
theorem rsl_tree {x0_0 : List (List Ct)} {x0_1 : Int} {v : Int × Int × List (List Ct)} (h : rsl_res x0_0 x0_1 = some v) : CallOk Try.prog 40 [.sv (.one (.ptr 0 0))] [(0, .cells [.ext 1, .val false (.int .i64 x0_1)] 183), (1, .grid [.int .u8] x0_0)] 2 (rsl_O v) :=
  eng_body (C := (⟨consReel2, fun _ _ _ => none, fun f => false, noFacts, fun _ => 0⟩ : Cfg Try.prog)) noFacts_ok (n := 30) (f := 40) (rsl_T x0_0 x0_1) rsl_O rsl_rd rfl (fun r => rfl) (by kernel_rfl) h
noncomputable def rsl_v (x0_0 : List (List Ct)) (x0_1 : Int) : Int × Int × List (List Ct) := (rsl_res x0_0 x0_1).getD default
theorem rsl_spec (x0_0 : List (List Ct)) (x0_1 : Int) (h : ((rsl_res x0_0 x0_1).isSome) = true) : rsl_res x0_0 x0_1 = some (rsl_v x0_0 x0_1) := opt_get h
noncomputable def rsl_as : List ASh := [.ptr 183 [.grid [.int .u8], .int .i64]]
noncomputable def rsl_con : Con Try.prog := conS Try.prog 40 rsl_as (fun x => some ((rsl_res (x.getD 0 (.i 0)).rows (x.getD 1 (.i 0)).int).isSome)) (fun x => rsl_O (rsl_v (x.getD 0 (.i 0)).rows (x.getD 1 (.i 0)).int))
  (fun x h => ⟨by kernel_rfl, by kernel_rfl, Eq.mp (by kernel_rfl) (@rsl_tree ((x.getD 0 (.i 0)).rows) ((x.getD 1 (.i 0)).int) _ (rsl_spec ((x.getD 0 (.i 0)).rows) ((x.getD 1 (.i 0)).int) (h _ rfl)))⟩)

noncomputable def rfx_T (x0_0 : List (List Ct)) (x0_1 : Int) (v : Int × Int × List (List Ct)) : St := ⟨[.d, .d, .o (.q v.1), .d, .d, .d, .d, .d, .d, .d, .d, .d, .d, .d, .d, .d, .d, .d], [(0, .cells [.ext 6, .q v.2.1] 183), (6, .grid ([Sh.int IntKind.u8]) v.2.2)], 12, [0]⟩
noncomputable def rfx_O (v : Int × Int × List (List Ct)) : Out := ⟨.sv (.one (.val false (.int .i64 v.1))), [(6, .grid ([Sh.int IntKind.u8]) v.2.2), (0, .cells [.ext 6, .val false (.int .i64 v.2.1)] 183)], 12, [0]⟩
noncomputable def rfx_rd (ex : Ex) (s : St) : Option (Int × Int × List (List Ct)) × List (Nat × Option Nat) := (some (rI (frC s 2 0), rI (hpC s 0 1), rL s (hpC s 0 0)), [rnOf 6 (hpC s 0 0)])
noncomputable def rfx_res (x0_0 : List (List Ct)) (x0_1 : Int) : Option (Int × Int × List (List Ct)) := bif ((rrw_res x0_0 x0_1 (5 : Int)).isSome) then bif (decide ((IntKind.i64.wrap (IntKind.u64.wrap ((rrw_v x0_0 x0_1 (5 : Int)).fst * (2 : Int) ^ min (Int.toNat (24 : Int)) IntKind.u64.bits))).fdiv ((2 : Int) ^ min (Int.toNat (24 : Int)) IntKind.i64.bits) > (2147483648 : Int))) then (bif ((rrw_v x0_0 x0_1 (5 : Int)).snd.fst == (0 : Int)) then (some (0, 33, [])) else some (0, (rrw_v x0_0 x0_1 (5 : Int)).snd.fst, (rrw_v x0_0 x0_1 (5 : Int)).snd.snd)) else bif (decide ((IntKind.i64.wrap (IntKind.u64.wrap ((rrw_v x0_0 x0_1 (5 : Int)).fst * (2 : Int) ^ min (Int.toNat (24 : Int)) IntKind.u64.bits))).fdiv ((2 : Int) ^ min (Int.toNat (24 : Int)) IntKind.i64.bits) < (-2147483648 : Int))) then (bif ((rrw_v x0_0 x0_1 (5 : Int)).snd.fst == (0 : Int)) then (some (0, 33, [])) else some (0, (rrw_v x0_0 x0_1 (5 : Int)).snd.fst, (rrw_v x0_0 x0_1 (5 : Int)).snd.snd)) else some ((IntKind.i64.wrap (IntKind.u64.wrap ((rrw_v x0_0 x0_1 (5 : Int)).fst * (2 : Int) ^ min (Int.toNat (24 : Int)) IntKind.u64.bits))).fdiv ((2 : Int) ^ min (Int.toNat (24 : Int)) IntKind.i64.bits), (rrw_v x0_0 x0_1 (5 : Int)).snd.fst, (rrw_v x0_0 x0_1 (5 : Int)).snd.snd) else none
set_option maxRecDepth 100000 in
theorem rfx_tree {x0_0 : List (List Ct)} {x0_1 : Int} {v : Int × Int × List (List Ct)} (h : rfx_res x0_0 x0_1 = some v) : CallOk Try.prog 38 [.sv (.one (.ptr 0 0))] [(0, .cells [.ext 1, .val false (.int .i64 x0_1)] 183), (1, .grid [.int .u8] x0_0)] 2 (rfx_O v) :=
  eng_body (C := (⟨consReel2, fun _ _ _ => none, fun f => false, noFacts, fun _ => 0⟩ : Cfg Try.prog)) noFacts_ok (n := 30) (f := 38) (rfx_T x0_0 x0_1) rfx_O rfx_rd rfl (fun r => rfl) (by kernel_rfl) h
noncomputable def rfx_v (x0_0 : List (List Ct)) (x0_1 : Int) : Int × Int × List (List Ct) := (rfx_res x0_0 x0_1).getD default
theorem rfx_spec (x0_0 : List (List Ct)) (x0_1 : Int) (h : ((rfx_res x0_0 x0_1).isSome) = true) : rfx_res x0_0 x0_1 = some (rfx_v x0_0 x0_1) := opt_get h
noncomputable def rfx_as : List ASh := [.ptr 183 [.grid [.int .u8], .int .i64]]
noncomputable def rfx_con : Con Try.prog := conS Try.prog 38 rfx_as (fun x => some ((rfx_res (x.getD 0 (.i 0)).rows (x.getD 1 (.i 0)).int).isSome)) (fun x => rfx_O (rfx_v (x.getD 0 (.i 0)).rows (x.getD 1 (.i 0)).int))
  (fun x h => ⟨by kernel_rfl, by kernel_rfl, Eq.mp (by kernel_rfl) (@rfx_tree ((x.getD 0 (.i 0)).rows) ((x.getD 1 (.i 0)).int) _ (rfx_spec ((x.getD 0 (.i 0)).rows) ((x.getD 1 (.i 0)).int) (h _ rfl)))⟩)

noncomputable def rrd_T (x0 : List (List Ct)) (v : List (List Ct)) : St := ⟨[.d, .d, .o (.ptr 3 0), .d, .d, .d, .d, .d], [(2, .row ([Sh.int IntKind.u8]) 5 v), (3, .cells [.ext 2, .val true (.int .i64 0)] 183)], 4, []⟩
noncomputable def rrd_O (v : List (List Ct)) : Out := ⟨.sv (.one (.ptr 3 0)), [(2, .row ([Sh.int IntKind.u8]) 5 v), (3, .cells [.ext 2, .val true (.int .i64 0)] 183)], 4, []⟩
noncomputable def rrd_rd (ex : Ex) (s : St) : Option (List (List Ct)) × List (Nat × Option Nat) := (some (rL s (hpC s 3 0)), [(2, some 2), (3, some 3)])
noncomputable def rrd_res (x0 : List (List Ct)) : Option (List (List Ct)) := bif (decide (0 + x0.length ≤ 9223372036854775807 ∧ (0 + x0.length) * 1 ≤ 140737488355328)) then some ([] ++ x0) else none
set_option maxRecDepth 100000 in
theorem rrd_tree {x0 : List (List Ct)} {v : List (List Ct)} (h : rrd_res x0 = some v) : CallOk Try.prog 31 [.sv (.one (.ext 0))] [(0, .grid [.int .u8] x0)] 1 (rrd_O v) :=
  eng_body (C := (⟨consReel2, fun _ _ _ => none, fun f => false, noFacts, fun _ => 0⟩ : Cfg Try.prog)) noFacts_ok (n := 30) (f := 31) (rrd_T x0) rrd_O rrd_rd rfl (fun r => rfl) (by kernel_rfl) h
noncomputable def rrd_v (x0 : List (List Ct)) : List (List Ct) := (rrd_res x0).getD default
theorem rrd_spec (x0 : List (List Ct)) (h : ((rrd_res x0).isSome) = true) : rrd_res x0 = some (rrd_v x0) := opt_get h
noncomputable def rrd_m (args : List RV) (hp : Hp) : Option ((List (List Ct)) × List Nat) := match args with
  | [.sv (.one (.ext i0))] => (match gridAt hp i0 [.int .u8] with
    | some x0 => some (x0, [i0])
    | _ => none)
  | _ => none
noncomputable def rrd_con : Con Try.prog := conX Try.prog 31 rrd_m 1 (fun x => [.sv (.one (.ext 0))]) (fun x => [(0, .grid [.int .u8] x)]) (fun x => some ((rrd_res x).isSome)) (fun x => rrd_O (rrd_v x))
  (by
    intro args hp x r h
    unfold rrd_m at h
    split at h
    · split at h
      · rename_i g0
        cases h
        refine ⟨rfl, fun nx => ⟨rfl, ?_, ?_⟩⟩
        · intro i hi
          simp only [List.mem_cons, List.not_mem_nil, or_false] at hi
          rcases hi with rfl
          · exact ⟨_, List.mem_of_getElem? (i := 0) rfl, .inl (by simp [RV.ids, SV.ids, CV.ids])⟩
        · intro id o0 ho
          have := hlook_mem ho
          simp only [List.mem_cons, Prod.mk.injEq, List.not_mem_nil, or_false] at this
          rcases this with ⟨rfl, rfl⟩
          · exact ⟨_, gridAt_spec g0, rfl⟩
      · cases h
    · cases h)
  (fun x h => ⟨rfl, rfl, rrd_tree (rrd_spec x (h _ rfl))⟩)
noncomputable def consReel3 : List (Con Try.prog) := [rby_con, rha_con, rlo_con, rsl_con, rfx_con, rrd_con.freezeR.freezeO] ++ consReel2
end Go.Proofs.Ytcpbiijegbbafaa
