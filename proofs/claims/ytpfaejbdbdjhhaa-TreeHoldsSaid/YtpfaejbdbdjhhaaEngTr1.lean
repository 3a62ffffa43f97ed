/- Boxes' wholes, middles, skins. No condition. -/
import Derived.Test.YtpfaejbdbdjhhaaEngBoxPair
set_option linter.unusedVariables false
set_option linter.unusedSimpArgs false
namespace Go.Proofs.Ytpfaejbdbdjhhaa
open Go.RowKit

noncomputable def twh_O (v : Int × Int × Int × Int × Int × Int) : Out := ⟨.sv (.agg [.val false (.int .i64 v.1), .val false (.int .i64 v.2.1), .val false (.int .i64 v.2.2.1), .val false (.int .i64 v.2.2.2.1), .val false (.int .i64 v.2.2.2.2.1), .val false (.int .i64 v.2.2.2.2.2)]), [], 20, []⟩
noncomputable def twh_rd (out : Out) : Option (Int × Int × Int × Int × Int × Int) := some (rI (rvC out.v 0 0), rI (rvC out.v 0 1), rI (rvC out.v 0 2), rI (rvC out.v 0 3), rI (rvC out.v 0 4), rI (rvC out.v 0 5))
noncomputable def twh_res (x0_0 x0_1 x0_2 x0_3 x0_4 x0_5 x0_6 x0_7 x0_8 x0_9 x0_10 x0_11 : Int) : Option (Int × Int × Int × Int × Int × Int) := some (if x0_6 < x0_0 then x0_6 else x0_0, if x0_7 < x0_1 then x0_7 else x0_1, if x0_8 < x0_2 then x0_8 else x0_2, if x0_9 > x0_3 then x0_9 else x0_3, if x0_10 > x0_4 then x0_10 else x0_4, if x0_11 > x0_5 then x0_11 else x0_5)
set_option maxRecDepth 100000 in
theorem twh_tree {x0_0 x0_1 x0_2 x0_3 x0_4 x0_5 x0_6 x0_7 x0_8 x0_9 x0_10 x0_11 : Int} {v : Int × Int × Int × Int × Int × Int} (h : twh_res x0_0 x0_1 x0_2 x0_3 x0_4 x0_5 x0_6 x0_7 x0_8 x0_9 x0_10 x0_11 = some v) : CallOk Try.prog 15 [.sv (.agg [.val false (.int .i64 x0_0), .val false (.int .i64 x0_1), .val false (.int .i64 x0_2), .val false (.int .i64 x0_3), .val false (.int .i64 x0_4), .val false (.int .i64 x0_5), .val false (.int .i64 x0_6), .val false (.int .i64 x0_7), .val false (.int .i64 x0_8), .val false (.int .i64 x0_9), .val false (.int .i64 x0_10), .val false (.int .i64 x0_11)])] [] 0 (twh_O v) :=
  eng_tree (C := (⟨consBoxPair, fun _ _ _ => none, fun f => false, noFacts, fun _ => 4⟩ : Cfg Try.prog)) noFacts_ok (n := 30) (f := 15) twh_O twh_rd rfl (by kernel_rfl) h
noncomputable def twh_v (x0_0 x0_1 x0_2 x0_3 x0_4 x0_5 x0_6 x0_7 x0_8 x0_9 x0_10 x0_11 : Int) : Int × Int × Int × Int × Int × Int := (if x0_6 < x0_0 then x0_6 else x0_0, if x0_7 < x0_1 then x0_7 else x0_1, if x0_8 < x0_2 then x0_8 else x0_2, if x0_9 > x0_3 then x0_9 else x0_3, if x0_10 > x0_4 then x0_10 else x0_4, if x0_11 > x0_5 then x0_11 else x0_5)
theorem twh_spec (x0_0 x0_1 x0_2 x0_3 x0_4 x0_5 x0_6 x0_7 x0_8 x0_9 x0_10 x0_11 : Int) : twh_res x0_0 x0_1 x0_2 x0_3 x0_4 x0_5 x0_6 x0_7 x0_8 x0_9 x0_10 x0_11 = some (twh_v x0_0 x0_1 x0_2 x0_3 x0_4 x0_5 x0_6 x0_7 x0_8 x0_9 x0_10 x0_11) := by simp only [twh_res, twh_v, cond_some]
noncomputable def twh_as : List ASh := [.agg [.int .i64, .int .i64, .int .i64, .int .i64, .int .i64, .int .i64, .int .i64, .int .i64, .int .i64, .int .i64, .int .i64, .int .i64]]
noncomputable def twh_con : Con Try.prog := conS Try.prog 15 twh_as (fun x => none) (fun x => twh_O (twh_v (x.getD 0 (.i 0)).int (x.getD 1 (.i 0)).int (x.getD 2 (.i 0)).int (x.getD 3 (.i 0)).int (x.getD 4 (.i 0)).int (x.getD 5 (.i 0)).int (x.getD 6 (.i 0)).int (x.getD 7 (.i 0)).int (x.getD 8 (.i 0)).int (x.getD 9 (.i 0)).int (x.getD 10 (.i 0)).int (x.getD 11 (.i 0)).int))
  (fun x h => ⟨by kernel_rfl, by kernel_rfl, Eq.mp (by kernel_rfl) (@twh_tree ((x.getD 0 (.i 0)).int) ((x.getD 1 (.i 0)).int) ((x.getD 2 (.i 0)).int) ((x.getD 3 (.i 0)).int) ((x.getD 4 (.i 0)).int) ((x.getD 5 (.i 0)).int) ((x.getD 6 (.i 0)).int) ((x.getD 7 (.i 0)).int) ((x.getD 8 (.i 0)).int) ((x.getD 9 (.i 0)).int) ((x.getD 10 (.i 0)).int) ((x.getD 11 (.i 0)).int) _ (twh_spec ((x.getD 0 (.i 0)).int) ((x.getD 1 (.i 0)).int) ((x.getD 2 (.i 0)).int) ((x.getD 3 (.i 0)).int) ((x.getD 4 (.i 0)).int) ((x.getD 5 (.i 0)).int) ((x.getD 6 (.i 0)).int) ((x.getD 7 (.i 0)).int) ((x.getD 8 (.i 0)).int) ((x.getD 9 (.i 0)).int) ((x.getD 10 (.i 0)).int) ((x.getD 11 (.i 0)).int)))⟩)

noncomputable def tmi_O (v : Int × Int × Int) : Out := ⟨.sv (.agg [.val false (.int .i64 v.1), .val false (.int .i64 v.2.1), .val false (.int .i64 v.2.2)]), [], 2, []⟩
noncomputable def tmi_rd (out : Out) : Option (Int × Int × Int) := some (rI (rvC out.v 0 0), rI (rvC out.v 0 1), rI (rvC out.v 0 2))
noncomputable def tmi_res (x0_0 x0_1 x0_2 x0_3 x0_4 x0_5 : Int) : Option (Int × Int × Int) := some (lerpS x0_0 x0_3 (32768 : Int), lerpS x0_1 x0_4 (32768 : Int), lerpS x0_2 x0_5 (32768 : Int))
set_option maxRecDepth 100000 in
theorem tmi_tree {x0_0 x0_1 x0_2 x0_3 x0_4 x0_5 : Int} {v : Int × Int × Int} (h : tmi_res x0_0 x0_1 x0_2 x0_3 x0_4 x0_5 = some v) : CallOk Try.prog 16 [.sv (.agg [.val false (.int .i64 x0_0), .val false (.int .i64 x0_1), .val false (.int .i64 x0_2), .val false (.int .i64 x0_3), .val false (.int .i64 x0_4), .val false (.int .i64 x0_5)])] [] 0 (tmi_O v) :=
  eng_tree (C := (⟨consBoxPair, fun _ _ _ => none, fun f => false, noFacts, fun _ => 4⟩ : Cfg Try.prog)) noFacts_ok (n := 30) (f := 16) tmi_O tmi_rd rfl (by kernel_rfl) h
noncomputable def tmi_v (x0_0 x0_1 x0_2 x0_3 x0_4 x0_5 : Int) : Int × Int × Int := (lerpS x0_0 x0_3 (32768 : Int), lerpS x0_1 x0_4 (32768 : Int), lerpS x0_2 x0_5 (32768 : Int))
theorem tmi_spec (x0_0 x0_1 x0_2 x0_3 x0_4 x0_5 : Int) : tmi_res x0_0 x0_1 x0_2 x0_3 x0_4 x0_5 = some (tmi_v x0_0 x0_1 x0_2 x0_3 x0_4 x0_5) := by simp only [tmi_res, tmi_v, cond_some]
noncomputable def tmi_m (args : List RV) (hp : Hp) : Option ((Int × Int × Int × Int × Int × Int) × List Nat) := match args with
  | [.sv (.agg [.val _ (.int .i64 x0_0), .val _ (.int .i64 x0_1), .val _ (.int .i64 x0_2), .val _ (.int .i64 x0_3), .val _ (.int .i64 x0_4), .val _ (.int .i64 x0_5)])] => some ((x0_0, x0_1, x0_2, x0_3, x0_4, x0_5), [])
  | _ => none
noncomputable def tmi_con : Con Try.prog := conX Try.prog 16 tmi_m 0 (fun x => [.sv (.agg [.val false (.int .i64 x.1), .val false (.int .i64 x.2.1), .val false (.int .i64 x.2.2.1), .val false (.int .i64 x.2.2.2.1), .val false (.int .i64 x.2.2.2.2.1), .val false (.int .i64 x.2.2.2.2.2)])]) (fun x => []) (fun x => none) (fun x => tmi_O (tmi_v x.1 x.2.1 x.2.2.1 x.2.2.2.1 x.2.2.2.2.1 x.2.2.2.2.2))
  (by
    intro args hp x r h
    unfold tmi_m at h
    split at h
    · cases h
      exact ⟨rfl, fun nx => ⟨rfl, (fun i hi => by cases hi), fun id o0 ho => by simp [hlook] at ho⟩⟩
    · cases h)
  (fun x h => ⟨rfl, rfl, tmi_tree (tmi_spec x.1 x.2.1 x.2.2.1 x.2.2.2.1 x.2.2.2.2.1 x.2.2.2.2.2)⟩)

noncomputable def tsk_O (v : Int) : Out := ⟨.sv (.one (.val false (.int .i64 v))), [], 5, []⟩
noncomputable def tsk_rd (out : Out) : Option (Int) := some (rI (rvC out.v 0 0))
noncomputable def tsk_res (x0_0 x0_1 x0_2 x0_3 x0_4 x0_5 : Int) : Option (Int) := some (addS (addS (addS (0 : Int) (mulS (subS x0_3 x0_0) (subS x0_4 x0_1))) (mulS (subS x0_4 x0_1) (subS x0_5 x0_2))) (mulS (subS x0_5 x0_2) (subS x0_3 x0_0)))
set_option maxRecDepth 100000 in
theorem tsk_tree {x0_0 x0_1 x0_2 x0_3 x0_4 x0_5 v : Int} (h : tsk_res x0_0 x0_1 x0_2 x0_3 x0_4 x0_5 = some v) : CallOk Try.prog 62 [.sv (.agg [.val false (.int .i64 x0_0), .val false (.int .i64 x0_1), .val false (.int .i64 x0_2), .val false (.int .i64 x0_3), .val false (.int .i64 x0_4), .val false (.int .i64 x0_5)])] [] 0 (tsk_O v) :=
  eng_tree (C := (⟨consBoxPair, fun _ _ _ => none, fun f => false, noFacts, fun _ => 4⟩ : Cfg Try.prog)) noFacts_ok (n := 30) (f := 62) tsk_O tsk_rd rfl (by kernel_rfl) h
noncomputable def tsk_v (x0_0 x0_1 x0_2 x0_3 x0_4 x0_5 : Int) : Int := addS (addS (addS (0 : Int) (mulS (subS x0_3 x0_0) (subS x0_4 x0_1))) (mulS (subS x0_4 x0_1) (subS x0_5 x0_2))) (mulS (subS x0_5 x0_2) (subS x0_3 x0_0))
theorem tsk_spec (x0_0 x0_1 x0_2 x0_3 x0_4 x0_5 : Int) : tsk_res x0_0 x0_1 x0_2 x0_3 x0_4 x0_5 = some (tsk_v x0_0 x0_1 x0_2 x0_3 x0_4 x0_5) := by simp only [tsk_res, tsk_v, cond_some]
noncomputable def tsk_m (args : List RV) (hp : Hp) : Option ((Int × Int × Int × Int × Int × Int) × List Nat) := match args with
  | [.sv (.agg [.val _ (.int .i64 x0_0), .val _ (.int .i64 x0_1), .val _ (.int .i64 x0_2), .val _ (.int .i64 x0_3), .val _ (.int .i64 x0_4), .val _ (.int .i64 x0_5)])] => some ((x0_0, x0_1, x0_2, x0_3, x0_4, x0_5), [])
  | _ => none
noncomputable def tsk_con : Con Try.prog := conX Try.prog 62 tsk_m 0 (fun x => [.sv (.agg [.val false (.int .i64 x.1), .val false (.int .i64 x.2.1), .val false (.int .i64 x.2.2.1), .val false (.int .i64 x.2.2.2.1), .val false (.int .i64 x.2.2.2.2.1), .val false (.int .i64 x.2.2.2.2.2)])]) (fun x => []) (fun x => none) (fun x => tsk_O (tsk_v x.1 x.2.1 x.2.2.1 x.2.2.2.1 x.2.2.2.2.1 x.2.2.2.2.2))
  (by
    intro args hp x r h
    unfold tsk_m at h
    split at h
    · cases h
      exact ⟨rfl, fun nx => ⟨rfl, (fun i hi => by cases hi), fun id o0 ho => by simp [hlook] at ho⟩⟩
    · cases h)
  (fun x h => ⟨rfl, rfl, tsk_tree (tsk_spec x.1 x.2.1 x.2.2.1 x.2.2.2.1 x.2.2.2.2.1 x.2.2.2.2.2)⟩)

noncomputable def twi_O (v : Int) : Out := ⟨.sv (.one (.val false (.int .i64 v))), [], 9, []⟩
noncomputable def twi_rd (out : Out) : Option (Int) := some (rI (rvC out.v 0 0))
noncomputable def twi_res (x0_0 x0_1 x0_2 : Int) : Option (Int) := bif ((bif decide (absS x0_1 > absS x0_0) then (1 : Int) else (0 : Int)) == (0 : Int)) then (some (bif decide (absS x0_2 > absS x0_0) then (2 : Int) else bif decide (absS x0_1 > absS x0_0) then (1 : Int) else (0 : Int))) else bif ((bif decide (absS x0_1 > absS x0_0) then (1 : Int) else (0 : Int)) == (1 : Int)) then (some (bif decide (absS x0_2 > absS x0_1) then (2 : Int) else bif decide (absS x0_1 > absS x0_0) then (1 : Int) else (0 : Int))) else some (bif decide (absS x0_2 > absS x0_2) then (2 : Int) else bif decide (absS x0_1 > absS x0_0) then (1 : Int) else (0 : Int))
set_option maxRecDepth 100000 in
theorem twi_tree {x0_0 x0_1 x0_2 v : Int} (h : twi_res x0_0 x0_1 x0_2 = some v) : CallOk Try.prog 38 [.sv (.agg [.val false (.int .i64 x0_0), .val false (.int .i64 x0_1), .val false (.int .i64 x0_2)])] [] 0 (twi_O v) :=
  eng_tree (C := (⟨consBoxPair, fun _ _ _ => none, fun f => false, noFacts, fun _ => 4⟩ : Cfg Try.prog)) noFacts_ok (n := 30) (f := 38) twi_O twi_rd rfl (by kernel_rfl) h
noncomputable def twi_v (x0_0 x0_1 x0_2 : Int) : Int := bif ((bif decide (absS x0_1 > absS x0_0) then (1 : Int) else (0 : Int)) == (0 : Int)) then (bif decide (absS x0_2 > absS x0_0) then (2 : Int) else bif decide (absS x0_1 > absS x0_0) then (1 : Int) else (0 : Int)) else bif ((bif decide (absS x0_1 > absS x0_0) then (1 : Int) else (0 : Int)) == (1 : Int)) then (bif decide (absS x0_2 > absS x0_1) then (2 : Int) else bif decide (absS x0_1 > absS x0_0) then (1 : Int) else (0 : Int)) else bif decide (absS x0_2 > absS x0_2) then (2 : Int) else bif decide (absS x0_1 > absS x0_0) then (1 : Int) else (0 : Int)
theorem twi_spec (x0_0 x0_1 x0_2 : Int) : twi_res x0_0 x0_1 x0_2 = some (twi_v x0_0 x0_1 x0_2) := by simp only [twi_res, twi_v, cond_some]
noncomputable def twi_m (args : List RV) (hp : Hp) : Option ((Int × Int × Int) × List Nat) := match args with
  | [.sv (.agg [.val _ (.int .i64 x0_0), .val _ (.int .i64 x0_1), .val _ (.int .i64 x0_2)])] => some ((x0_0, x0_1, x0_2), [])
  | _ => none
noncomputable def twi_con : Con Try.prog := conX Try.prog 38 twi_m 0 (fun x => [.sv (.agg [.val false (.int .i64 x.1), .val false (.int .i64 x.2.1), .val false (.int .i64 x.2.2)])]) (fun x => []) (fun x => none) (fun x => twi_O (twi_v x.1 x.2.1 x.2.2))
  (by
    intro args hp x r h
    unfold twi_m at h
    split at h
    · cases h
      exact ⟨rfl, fun nx => ⟨rfl, (fun i hi => by cases hi), fun id o0 ho => by simp [hlook] at ho⟩⟩
    · cases h)
  (fun x h => ⟨rfl, rfl, twi_tree (twi_spec x.1 x.2.1 x.2.2)⟩)

noncomputable def tat_O (v : Int) : Out := ⟨.sv (.one (.val false (.int .i64 v))), [], 3, []⟩
noncomputable def tat_rd (out : Out) : Option (Int) := some (rI (rvC out.v 0 0))
noncomputable def tat_res (x0_0 x0_1 x0_2 x1 : Int) : Option (Int) := bif (x1 == (0 : Int)) then (some x0_0) else bif (x1 == (1 : Int)) then (some x0_1) else some x0_2
set_option maxRecDepth 100000 in
theorem tat_tree {x0_0 x0_1 x0_2 x1 v : Int} (h : tat_res x0_0 x0_1 x0_2 x1 = some v) : CallOk Try.prog 39 [.sv (.agg [.val false (.int .i64 x0_0), .val false (.int .i64 x0_1), .val false (.int .i64 x0_2)]), .sv (.one (.val false (.int .i64 x1)))] [] 0 (tat_O v) :=
  eng_tree (C := (⟨consBoxPair, fun _ _ _ => none, fun f => false, noFacts, fun _ => 4⟩ : Cfg Try.prog)) noFacts_ok (n := 30) (f := 39) tat_O tat_rd rfl (by kernel_rfl) h
noncomputable def tat_v (x0_0 x0_1 x0_2 x1 : Int) : Int := bif (x1 == (0 : Int)) then (x0_0) else bif (x1 == (1 : Int)) then (x0_1) else x0_2
theorem tat_spec (x0_0 x0_1 x0_2 x1 : Int) : tat_res x0_0 x0_1 x0_2 x1 = some (tat_v x0_0 x0_1 x0_2 x1) := by simp only [tat_res, tat_v, cond_some]
noncomputable def tat_m (args : List RV) (hp : Hp) : Option ((Int × Int × Int × Int) × List Nat) := match args with
  | [.sv (.agg [.val _ (.int .i64 x0_0), .val _ (.int .i64 x0_1), .val _ (.int .i64 x0_2)]), .sv (.one (.val _ (.int .i64 x1)))] => some ((x0_0, x0_1, x0_2, x1), [])
  | _ => none
noncomputable def tat_con : Con Try.prog := conX Try.prog 39 tat_m 0 (fun x => [.sv (.agg [.val false (.int .i64 x.1), .val false (.int .i64 x.2.1), .val false (.int .i64 x.2.2.1)]), .sv (.one (.val false (.int .i64 x.2.2.2)))]) (fun x => []) (fun x => none) (fun x => tat_O (tat_v x.1 x.2.1 x.2.2.1 x.2.2.2))
  (by
    intro args hp x r h
    unfold tat_m at h
    split at h
    · cases h
      exact ⟨rfl, fun nx => ⟨rfl, (fun i hi => by cases hi), fun id o0 ho => by simp [hlook] at ho⟩⟩
    · cases h)
  (fun x h => ⟨rfl, rfl, tat_tree (tat_spec x.1 x.2.1 x.2.2.1 x.2.2.2)⟩)

noncomputable def tbi_O (v : Int) : Out := ⟨.sv (.one (.val false (.int .i64 v))), [], 0, []⟩
noncomputable def tbi_rd (out : Out) : Option (Int) := some (rI (rvC out.v 0 0))
noncomputable def tbi_res (x0 x1 x2 : Int) : Option (Int) := some (if (7 : Int) < (heldS (mulS (524288 : Int) (divS (subS x0 x1) x2))).fdiv ((2 : Int) ^ min (Int.toNat (16 : Int)) IntKind.i64.bits) then (7 : Int) else (heldS (mulS (524288 : Int) (divS (subS x0 x1) x2))).fdiv ((2 : Int) ^ min (Int.toNat (16 : Int)) IntKind.i64.bits))
set_option maxRecDepth 100000 in
theorem tbi_tree {x0 x1 x2 v : Int} (h : tbi_res x0 x1 x2 = some v) : CallOk Try.prog 40 [.sv (.one (.val false (.int .i64 x0))), .sv (.one (.val false (.int .i64 x1))), .sv (.one (.val false (.int .i64 x2)))] [] 0 (tbi_O v) :=
  eng_tree (C := (⟨consBoxPair, fun _ _ _ => none, fun f => false, noFacts, fun _ => 4⟩ : Cfg Try.prog)) noFacts_ok (n := 30) (f := 40) tbi_O tbi_rd rfl (by kernel_rfl) h
noncomputable def tbi_v (x0 x1 x2 : Int) : Int := if (7 : Int) < (heldS (mulS (524288 : Int) (divS (subS x0 x1) x2))).fdiv ((2 : Int) ^ min (Int.toNat (16 : Int)) IntKind.i64.bits) then (7 : Int) else (heldS (mulS (524288 : Int) (divS (subS x0 x1) x2))).fdiv ((2 : Int) ^ min (Int.toNat (16 : Int)) IntKind.i64.bits)
theorem tbi_spec (x0 x1 x2 : Int) : tbi_res x0 x1 x2 = some (tbi_v x0 x1 x2) := by simp only [tbi_res, tbi_v, cond_some]
noncomputable def tbi_m (args : List RV) (hp : Hp) : Option ((Int × Int × Int) × List Nat) := match args with
  | [.sv (.one (.val _ (.int .i64 x0))), .sv (.one (.val _ (.int .i64 x1))), .sv (.one (.val _ (.int .i64 x2)))] => some ((x0, x1, x2), [])
  | _ => none
noncomputable def tbi_con : Con Try.prog := conX Try.prog 40 tbi_m 0 (fun x => [.sv (.one (.val false (.int .i64 x.1))), .sv (.one (.val false (.int .i64 x.2.1))), .sv (.one (.val false (.int .i64 x.2.2)))]) (fun x => []) (fun x => none) (fun x => tbi_O (tbi_v x.1 x.2.1 x.2.2))
  (by
    intro args hp x r h
    unfold tbi_m at h
    split at h
    · cases h
      exact ⟨rfl, fun nx => ⟨rfl, (fun i hi => by cases hi), fun id o0 ho => by simp [hlook] at ho⟩⟩
    · cases h)
  (fun x h => ⟨rfl, rfl, tbi_tree (tbi_spec x.1 x.2.1 x.2.2)⟩)

noncomputable def rwh_O (v : Int × Int × Int × Int × Int × Int) : Out := ⟨.sv (.agg [.val false (.int .i64 v.1), .val false (.int .i64 v.2.1), .val false (.int .i64 v.2.2.1), .val false (.int .i64 v.2.2.2.1), .val false (.int .i64 v.2.2.2.2.1), .val false (.int .i64 v.2.2.2.2.2)]), [], 11, []⟩
noncomputable def rwh_rd (out : Out) : Option (Int × Int × Int × Int × Int × Int) := some (rI (rvC out.v 0 0), rI (rvC out.v 0 1), rI (rvC out.v 0 2), rI (rvC out.v 0 3), rI (rvC out.v 0 4), rI (rvC out.v 0 5))
noncomputable def rwh_res (x0_0 x0_1 x0_2 x0_3 x0_4 x0_5 x0_6 x0_7 x0_8 x0_9 x0_10 x0_11 : Int) : Option (Int × Int × Int × Int × Int × Int) := some (bif decide (x0_6 < x0_0) then x0_6 else x0_0, bif decide (x0_7 < x0_1) then x0_7 else x0_1, bif decide (x0_8 < x0_2) then x0_8 else x0_2, bif decide (x0_9 > x0_3) then x0_9 else x0_3, bif decide (x0_10 > x0_4) then x0_10 else x0_4, bif decide (x0_11 > x0_5) then x0_11 else x0_5)
set_option maxRecDepth 100000 in
theorem rwh_tree {x0_0 x0_1 x0_2 x0_3 x0_4 x0_5 x0_6 x0_7 x0_8 x0_9 x0_10 x0_11 : Int} {v : Int × Int × Int × Int × Int × Int} (h : rwh_res x0_0 x0_1 x0_2 x0_3 x0_4 x0_5 x0_6 x0_7 x0_8 x0_9 x0_10 x0_11 = some v) : CallOk Try.prog 50 [.sv (.agg [.val false (.int .i64 x0_0), .val false (.int .i64 x0_1), .val false (.int .i64 x0_2), .val false (.int .i64 x0_3), .val false (.int .i64 x0_4), .val false (.int .i64 x0_5), .val false (.int .i64 x0_6), .val false (.int .i64 x0_7), .val false (.int .i64 x0_8), .val false (.int .i64 x0_9), .val false (.int .i64 x0_10), .val false (.int .i64 x0_11)])] [] 0 (rwh_O v) :=
  eng_tree (C := (⟨consBoxPair, fun _ _ _ => none, fun f => false, noFacts, fun _ => 4⟩ : Cfg Try.prog)) noFacts_ok (n := 30) (f := 50) rwh_O rwh_rd rfl (by kernel_rfl) h
noncomputable def rwh_v (x0_0 x0_1 x0_2 x0_3 x0_4 x0_5 x0_6 x0_7 x0_8 x0_9 x0_10 x0_11 : Int) : Int × Int × Int × Int × Int × Int := (bif decide (x0_6 < x0_0) then x0_6 else x0_0, bif decide (x0_7 < x0_1) then x0_7 else x0_1, bif decide (x0_8 < x0_2) then x0_8 else x0_2, bif decide (x0_9 > x0_3) then x0_9 else x0_3, bif decide (x0_10 > x0_4) then x0_10 else x0_4, bif decide (x0_11 > x0_5) then x0_11 else x0_5)
theorem rwh_spec (x0_0 x0_1 x0_2 x0_3 x0_4 x0_5 x0_6 x0_7 x0_8 x0_9 x0_10 x0_11 : Int) : rwh_res x0_0 x0_1 x0_2 x0_3 x0_4 x0_5 x0_6 x0_7 x0_8 x0_9 x0_10 x0_11 = some (rwh_v x0_0 x0_1 x0_2 x0_3 x0_4 x0_5 x0_6 x0_7 x0_8 x0_9 x0_10 x0_11) := by simp only [rwh_res, rwh_v, cond_some]
noncomputable def rwh_as : List ASh := [.agg [.int .i64, .int .i64, .int .i64, .int .i64, .int .i64, .int .i64, .int .i64, .int .i64, .int .i64, .int .i64, .int .i64, .int .i64]]
noncomputable def rwh_con : Con Try.prog := conS Try.prog 50 rwh_as (fun x => none) (fun x => rwh_O (rwh_v (x.getD 0 (.i 0)).int (x.getD 1 (.i 0)).int (x.getD 2 (.i 0)).int (x.getD 3 (.i 0)).int (x.getD 4 (.i 0)).int (x.getD 5 (.i 0)).int (x.getD 6 (.i 0)).int (x.getD 7 (.i 0)).int (x.getD 8 (.i 0)).int (x.getD 9 (.i 0)).int (x.getD 10 (.i 0)).int (x.getD 11 (.i 0)).int))
  (fun x h => ⟨by kernel_rfl, by kernel_rfl, Eq.mp (by kernel_rfl) (@rwh_tree ((x.getD 0 (.i 0)).int) ((x.getD 1 (.i 0)).int) ((x.getD 2 (.i 0)).int) ((x.getD 3 (.i 0)).int) ((x.getD 4 (.i 0)).int) ((x.getD 5 (.i 0)).int) ((x.getD 6 (.i 0)).int) ((x.getD 7 (.i 0)).int) ((x.getD 8 (.i 0)).int) ((x.getD 9 (.i 0)).int) ((x.getD 10 (.i 0)).int) ((x.getD 11 (.i 0)).int) _ (rwh_spec ((x.getD 0 (.i 0)).int) ((x.getD 1 (.i 0)).int) ((x.getD 2 (.i 0)).int) ((x.getD 3 (.i 0)).int) ((x.getD 4 (.i 0)).int) ((x.getD 5 (.i 0)).int) ((x.getD 6 (.i 0)).int) ((x.getD 7 (.i 0)).int) ((x.getD 8 (.i 0)).int) ((x.getD 9 (.i 0)).int) ((x.getD 10 (.i 0)).int) ((x.getD 11 (.i 0)).int)))⟩)

noncomputable def rmi_O (v : Int × Int × Int) : Out := ⟨.sv (.agg [.val false (.int .i64 v.1), .val false (.int .i64 v.2.1), .val false (.int .i64 v.2.2)]), [], 14, []⟩
noncomputable def rmi_rd (out : Out) : Option (Int × Int × Int) := some (rI (rvC out.v 0 0), rI (rvC out.v 0 1), rI (rvC out.v 0 2))
noncomputable def rmi_res (x0_0 x0_1 x0_2 x0_3 x0_4 x0_5 x0_6 x0_7 x0_8 x0_9 x0_10 x0_11 : Int) : Option (Int × Int × Int) := some (lerpS (bif decide (x0_6 < x0_0) then x0_6 else x0_0) (bif decide (x0_9 > x0_3) then x0_9 else x0_3) (32768 : Int), lerpS (bif decide (x0_7 < x0_1) then x0_7 else x0_1) (bif decide (x0_10 > x0_4) then x0_10 else x0_4) (32768 : Int), lerpS (bif decide (x0_8 < x0_2) then x0_8 else x0_2) (bif decide (x0_11 > x0_5) then x0_11 else x0_5) (32768 : Int))
set_option maxRecDepth 100000 in
theorem rmi_tree {x0_0 x0_1 x0_2 x0_3 x0_4 x0_5 x0_6 x0_7 x0_8 x0_9 x0_10 x0_11 : Int} {v : Int × Int × Int} (h : rmi_res x0_0 x0_1 x0_2 x0_3 x0_4 x0_5 x0_6 x0_7 x0_8 x0_9 x0_10 x0_11 = some v) : CallOk Try.prog 44 [.sv (.agg [.val false (.int .i64 x0_0), .val false (.int .i64 x0_1), .val false (.int .i64 x0_2), .val false (.int .i64 x0_3), .val false (.int .i64 x0_4), .val false (.int .i64 x0_5), .val false (.int .i64 x0_6), .val false (.int .i64 x0_7), .val false (.int .i64 x0_8), .val false (.int .i64 x0_9), .val false (.int .i64 x0_10), .val false (.int .i64 x0_11)])] [] 0 (rmi_O v) :=
  eng_tree (C := (⟨consBoxPair, fun _ _ _ => none, fun f => false, noFacts, fun _ => 4⟩ : Cfg Try.prog)) noFacts_ok (n := 30) (f := 44) rmi_O rmi_rd rfl (by kernel_rfl) h
noncomputable def rmi_v (x0_0 x0_1 x0_2 x0_3 x0_4 x0_5 x0_6 x0_7 x0_8 x0_9 x0_10 x0_11 : Int) : Int × Int × Int := (lerpS (bif decide (x0_6 < x0_0) then x0_6 else x0_0) (bif decide (x0_9 > x0_3) then x0_9 else x0_3) (32768 : Int), lerpS (bif decide (x0_7 < x0_1) then x0_7 else x0_1) (bif decide (x0_10 > x0_4) then x0_10 else x0_4) (32768 : Int), lerpS (bif decide (x0_8 < x0_2) then x0_8 else x0_2) (bif decide (x0_11 > x0_5) then x0_11 else x0_5) (32768 : Int))
theorem rmi_spec (x0_0 x0_1 x0_2 x0_3 x0_4 x0_5 x0_6 x0_7 x0_8 x0_9 x0_10 x0_11 : Int) : rmi_res x0_0 x0_1 x0_2 x0_3 x0_4 x0_5 x0_6 x0_7 x0_8 x0_9 x0_10 x0_11 = some (rmi_v x0_0 x0_1 x0_2 x0_3 x0_4 x0_5 x0_6 x0_7 x0_8 x0_9 x0_10 x0_11) := by simp only [rmi_res, rmi_v, cond_some]
noncomputable def rmi_as : List ASh := [.agg [.int .i64, .int .i64, .int .i64, .int .i64, .int .i64, .int .i64, .int .i64, .int .i64, .int .i64, .int .i64, .int .i64, .int .i64]]
noncomputable def rmi_con : Con Try.prog := conS Try.prog 44 rmi_as (fun x => none) (fun x => rmi_O (rmi_v (x.getD 0 (.i 0)).int (x.getD 1 (.i 0)).int (x.getD 2 (.i 0)).int (x.getD 3 (.i 0)).int (x.getD 4 (.i 0)).int (x.getD 5 (.i 0)).int (x.getD 6 (.i 0)).int (x.getD 7 (.i 0)).int (x.getD 8 (.i 0)).int (x.getD 9 (.i 0)).int (x.getD 10 (.i 0)).int (x.getD 11 (.i 0)).int))
  (fun x h => ⟨by kernel_rfl, by kernel_rfl, Eq.mp (by kernel_rfl) (@rmi_tree ((x.getD 0 (.i 0)).int) ((x.getD 1 (.i 0)).int) ((x.getD 2 (.i 0)).int) ((x.getD 3 (.i 0)).int) ((x.getD 4 (.i 0)).int) ((x.getD 5 (.i 0)).int) ((x.getD 6 (.i 0)).int) ((x.getD 7 (.i 0)).int) ((x.getD 8 (.i 0)).int) ((x.getD 9 (.i 0)).int) ((x.getD 10 (.i 0)).int) ((x.getD 11 (.i 0)).int) _ (rmi_spec ((x.getD 0 (.i 0)).int) ((x.getD 1 (.i 0)).int) ((x.getD 2 (.i 0)).int) ((x.getD 3 (.i 0)).int) ((x.getD 4 (.i 0)).int) ((x.getD 5 (.i 0)).int) ((x.getD 6 (.i 0)).int) ((x.getD 7 (.i 0)).int) ((x.getD 8 (.i 0)).int) ((x.getD 9 (.i 0)).int) ((x.getD 10 (.i 0)).int) ((x.getD 11 (.i 0)).int)))⟩)

noncomputable def rsk_O (v : Int) : Out := ⟨.sv (.one (.val false (.int .i64 v))), [], 2, []⟩
noncomputable def rsk_rd (out : Out) : Option (Int) := some (rI (rvC out.v 0 0))
noncomputable def rsk_res (x0_0 x0_1 x0_2 x0_3 x0_4 x0_5 : Int) : Option (Int) := some (addS (addS (mulS (subS x0_3 x0_0) (subS x0_4 x0_1)) (mulS (subS x0_4 x0_1) (subS x0_5 x0_2))) (mulS (subS x0_5 x0_2) (subS x0_3 x0_0)))
set_option maxRecDepth 100000 in
theorem rsk_tree {x0_0 x0_1 x0_2 x0_3 x0_4 x0_5 v : Int} (h : rsk_res x0_0 x0_1 x0_2 x0_3 x0_4 x0_5 = some v) : CallOk Try.prog 49 [.sv (.agg [.val false (.int .i64 x0_0), .val false (.int .i64 x0_1), .val false (.int .i64 x0_2), .val false (.int .i64 x0_3), .val false (.int .i64 x0_4), .val false (.int .i64 x0_5)])] [] 0 (rsk_O v) :=
  eng_tree (C := (⟨consBoxPair, fun _ _ _ => none, fun f => false, noFacts, fun _ => 4⟩ : Cfg Try.prog)) noFacts_ok (n := 30) (f := 49) rsk_O rsk_rd rfl (by kernel_rfl) h
noncomputable def rsk_v (x0_0 x0_1 x0_2 x0_3 x0_4 x0_5 : Int) : Int := addS (addS (mulS (subS x0_3 x0_0) (subS x0_4 x0_1)) (mulS (subS x0_4 x0_1) (subS x0_5 x0_2))) (mulS (subS x0_5 x0_2) (subS x0_3 x0_0))
theorem rsk_spec (x0_0 x0_1 x0_2 x0_3 x0_4 x0_5 : Int) : rsk_res x0_0 x0_1 x0_2 x0_3 x0_4 x0_5 = some (rsk_v x0_0 x0_1 x0_2 x0_3 x0_4 x0_5) := by simp only [rsk_res, rsk_v, cond_some]
noncomputable def rsk_m (args : List RV) (hp : Hp) : Option ((Int × Int × Int × Int × Int × Int) × List Nat) := match args with
  | [.sv (.agg [.val _ (.int .i64 x0_0), .val _ (.int .i64 x0_1), .val _ (.int .i64 x0_2), .val _ (.int .i64 x0_3), .val _ (.int .i64 x0_4), .val _ (.int .i64 x0_5)])] => some ((x0_0, x0_1, x0_2, x0_3, x0_4, x0_5), [])
  | _ => none
noncomputable def rsk_con : Con Try.prog := conX Try.prog 49 rsk_m 0 (fun x => [.sv (.agg [.val false (.int .i64 x.1), .val false (.int .i64 x.2.1), .val false (.int .i64 x.2.2.1), .val false (.int .i64 x.2.2.2.1), .val false (.int .i64 x.2.2.2.2.1), .val false (.int .i64 x.2.2.2.2.2)])]) (fun x => []) (fun x => none) (fun x => rsk_O (rsk_v x.1 x.2.1 x.2.2.1 x.2.2.2.1 x.2.2.2.2.1 x.2.2.2.2.2))
  (by
    intro args hp x r h
    unfold rsk_m at h
    split at h
    · cases h
      exact ⟨rfl, fun nx => ⟨rfl, (fun i hi => by cases hi), fun id o0 ho => by simp [hlook] at ho⟩⟩
    · cases h)
  (fun x h => ⟨rfl, rfl, rsk_tree (rsk_spec x.1 x.2.1 x.2.2.1 x.2.2.2.1 x.2.2.2.2.1 x.2.2.2.2.2)⟩)

noncomputable def rpt_O (v : Int) : Out := ⟨.sv (.one (.val false (.int .i64 v))), [], 2, []⟩
noncomputable def rpt_rd (out : Out) : Option (Int) := some (rI (rvC out.v 0 0))
noncomputable def rpt_res (x0 x1 x2 : Int) : Option (Int) := bif (decide (IntKind.i64.wrap ((IntKind.i64.wrap (mulS (524288 : Int) (divS (subS x0 x1) x2) - bif decide ((mulS (524288 : Int) (divS (subS x0 x1) x2)).tmod (65536 : Int) < (0 : Int)) then IntKind.i64.wrap ((mulS (524288 : Int) (divS (subS x0 x1) x2)).tmod (65536 : Int) + (65536 : Int)) else (mulS (524288 : Int) (divS (subS x0 x1) x2)).tmod (65536 : Int))).tdiv (65536 : Int)) > (7 : Int))) then (some 7) else some (IntKind.i64.wrap ((IntKind.i64.wrap (mulS (524288 : Int) (divS (subS x0 x1) x2) - bif decide ((mulS (524288 : Int) (divS (subS x0 x1) x2)).tmod (65536 : Int) < (0 : Int)) then IntKind.i64.wrap ((mulS (524288 : Int) (divS (subS x0 x1) x2)).tmod (65536 : Int) + (65536 : Int)) else (mulS (524288 : Int) (divS (subS x0 x1) x2)).tmod (65536 : Int))).tdiv (65536 : Int)))
set_option maxRecDepth 100000 in
theorem rpt_tree {x0 x1 x2 v : Int} (h : rpt_res x0 x1 x2 = some v) : CallOk Try.prog 48 [.sv (.one (.val false (.int .i64 x0))), .sv (.one (.val false (.int .i64 x1))), .sv (.one (.val false (.int .i64 x2)))] [] 0 (rpt_O v) :=
  eng_tree (C := (⟨consBoxPair, fun _ _ _ => none, fun f => false, noFacts, fun _ => 4⟩ : Cfg Try.prog)) noFacts_ok (n := 30) (f := 48) rpt_O rpt_rd rfl (by kernel_rfl) h
noncomputable def rpt_v (x0 x1 x2 : Int) : Int := bif (decide (IntKind.i64.wrap ((IntKind.i64.wrap (mulS (524288 : Int) (divS (subS x0 x1) x2) - bif decide ((mulS (524288 : Int) (divS (subS x0 x1) x2)).tmod (65536 : Int) < (0 : Int)) then IntKind.i64.wrap ((mulS (524288 : Int) (divS (subS x0 x1) x2)).tmod (65536 : Int) + (65536 : Int)) else (mulS (524288 : Int) (divS (subS x0 x1) x2)).tmod (65536 : Int))).tdiv (65536 : Int)) > (7 : Int))) then (7) else IntKind.i64.wrap ((IntKind.i64.wrap (mulS (524288 : Int) (divS (subS x0 x1) x2) - bif decide ((mulS (524288 : Int) (divS (subS x0 x1) x2)).tmod (65536 : Int) < (0 : Int)) then IntKind.i64.wrap ((mulS (524288 : Int) (divS (subS x0 x1) x2)).tmod (65536 : Int) + (65536 : Int)) else (mulS (524288 : Int) (divS (subS x0 x1) x2)).tmod (65536 : Int))).tdiv (65536 : Int))
theorem rpt_spec (x0 x1 x2 : Int) : rpt_res x0 x1 x2 = some (rpt_v x0 x1 x2) := by simp only [rpt_res, rpt_v, cond_some]
noncomputable def rpt_m (args : List RV) (hp : Hp) : Option ((Int × Int × Int) × List Nat) := match args with
  | [.sv (.one (.val _ (.int .i64 x0))), .sv (.one (.val _ (.int .i64 x1))), .sv (.one (.val _ (.int .i64 x2)))] => some ((x0, x1, x2), [])
  | _ => none
noncomputable def rpt_con : Con Try.prog := conX Try.prog 48 rpt_m 0 (fun x => [.sv (.one (.val false (.int .i64 x.1))), .sv (.one (.val false (.int .i64 x.2.1))), .sv (.one (.val false (.int .i64 x.2.2)))]) (fun x => []) (fun x => none) (fun x => rpt_O (rpt_v x.1 x.2.1 x.2.2))
  (by
    intro args hp x r h
    unfold rpt_m at h
    split at h
    · cases h
      exact ⟨rfl, fun nx => ⟨rfl, (fun i hi => by cases hi), fun id o0 ho => by simp [hlook] at ho⟩⟩
    · cases h)
  (fun x h => ⟨rfl, rfl, rpt_tree (rpt_spec x.1 x.2.1 x.2.2)⟩)

noncomputable def ram_O (v : Int) : Out := ⟨.sv (.one (.val false (.int .i64 v))), [], 1, []⟩
noncomputable def ram_rd (out : Out) : Option (Int) := some (rI (rvC out.v 0 0))
noncomputable def ram_res (x0 : Int) : Option (Int) := bif (decide (heldS x0 < (0 : Int))) then (some (IntKind.i64.wrap ((0 : Int) - heldS x0))) else some (heldS x0)
set_option maxRecDepth 100000 in
theorem ram_tree {x0 : Int} {v : Int} (h : ram_res x0 = some v) : CallOk Try.prog 67 [.sv (.one (.val false (.int .i64 x0)))] [] 0 (ram_O v) :=
  eng_tree (C := (⟨consBoxPair, fun _ _ _ => none, fun f => false, noFacts, fun _ => 4⟩ : Cfg Try.prog)) noFacts_ok (n := 30) (f := 67) ram_O ram_rd rfl (by kernel_rfl) h
noncomputable def ram_v (x0 : Int) : Int := bif (decide (heldS x0 < (0 : Int))) then (IntKind.i64.wrap ((0 : Int) - heldS x0)) else heldS x0
theorem ram_spec (x0 : Int) : ram_res x0 = some (ram_v x0) := by simp only [ram_res, ram_v, cond_some]
noncomputable def ram_m (args : List RV) (hp : Hp) : Option ((Int) × List Nat) := match args with
  | [.sv (.one (.val _ (.int .i64 x0)))] => some (x0, [])
  | _ => none
noncomputable def ram_con : Con Try.prog := conX Try.prog 67 ram_m 0 (fun x => [.sv (.one (.val false (.int .i64 x)))]) (fun x => []) (fun x => none) (fun x => ram_O (ram_v x))
  (by
    intro args hp x r h
    unfold ram_m at h
    split at h
    · cases h
      exact ⟨rfl, fun nx => ⟨rfl, (fun i hi => by cases hi), fun id o0 ho => by simp [hlook] at ho⟩⟩
    · cases h)
  (fun x h => ⟨rfl, rfl, ram_tree (ram_spec x)⟩)
noncomputable def consTr1 : List (Con Try.prog) := [twh_con, tmi_con, tsk_con, twi_con, tat_con, tbi_con, rwh_con, rmi_con, rsk_con, rpt_con, ram_con] ++ consBoxPair
end Go.Proofs.Ytpfaejbdbdjhhaa
