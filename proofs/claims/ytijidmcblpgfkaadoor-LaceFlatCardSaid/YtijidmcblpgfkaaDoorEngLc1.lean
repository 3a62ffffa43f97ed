/- How far lights are apart. No condition. -/
import Derived.Test.YtijidmcblpgfkaaDoorEngFilm3
set_option linter.unusedVariables false
set_option linter.unusedSimpArgs false
namespace Go.Proofs.YtijidmcblpgfkaaDoor
open Go.RowKit

noncomputable def hdif_O (v : Int) : Out := ⟨.sv (.one (.val false (.int .i64 v))), [], 10, []⟩
noncomputable def hdif_rd (out : Out) : Option (Int) := some (rI (rvC out.v 0 0))
noncomputable def hdif_res (x0_0 x0_1 x0_2 x1_0 x1_1 x1_2 : Int) : Option (Int) := some (addS (addS (addS (0 : Int) (absS (hsub_v x0_0 x0_1 x0_2 x1_0 x1_1 x1_2).fst)) (absS (hsub_v x0_0 x0_1 x0_2 x1_0 x1_1 x1_2).snd.fst)) (absS (hsub_v x0_0 x0_1 x0_2 x1_0 x1_1 x1_2).snd.snd))
set_option maxRecDepth 100000 in
theorem hdif_tree {x0_0 x0_1 x0_2 x1_0 x1_1 x1_2 v : Int} (h : hdif_res x0_0 x0_1 x0_2 x1_0 x1_1 x1_2 = some v) : CallOk Tryd.prog 64 [.sv (.agg [.val false (.int .i64 x0_0), .val false (.int .i64 x0_1), .val false (.int .i64 x0_2)]), .sv (.agg [.val false (.int .i64 x1_0), .val false (.int .i64 x1_1), .val false (.int .i64 x1_2)])] [] 0 (hdif_O v) :=
  eng_tree (C := (⟨consFilm3, fun _ _ _ => none, fun f => false, noFacts, fun _ => 104⟩ : Cfg Tryd.prog)) noFacts_ok (n := 30) (f := 64) hdif_O hdif_rd rfl (by kernel_rfl) h
noncomputable def hdif_v (x0_0 x0_1 x0_2 x1_0 x1_1 x1_2 : Int) : Int := addS (addS (addS (0 : Int) (absS (hsub_v x0_0 x0_1 x0_2 x1_0 x1_1 x1_2).fst)) (absS (hsub_v x0_0 x0_1 x0_2 x1_0 x1_1 x1_2).snd.fst)) (absS (hsub_v x0_0 x0_1 x0_2 x1_0 x1_1 x1_2).snd.snd)
theorem hdif_spec (x0_0 x0_1 x0_2 x1_0 x1_1 x1_2 : Int) : hdif_res x0_0 x0_1 x0_2 x1_0 x1_1 x1_2 = some (hdif_v x0_0 x0_1 x0_2 x1_0 x1_1 x1_2) := by simp only [hdif_res, hdif_v, cond_some]
noncomputable def hdif_m (args : List RV) (hp : Hp) : Option ((Int × Int × Int × Int × Int × Int) × List Nat) := match args with
  | [.sv (.agg [.val _ (.int .i64 x0_0), .val _ (.int .i64 x0_1), .val _ (.int .i64 x0_2)]), .sv (.agg [.val _ (.int .i64 x1_0), .val _ (.int .i64 x1_1), .val _ (.int .i64 x1_2)])] => some ((x0_0, x0_1, x0_2, x1_0, x1_1, x1_2), [])
  | _ => none
noncomputable def hdif_con : Con Tryd.prog := conX Tryd.prog 64 hdif_m 0 (fun x => [.sv (.agg [.val false (.int .i64 x.1), .val false (.int .i64 x.2.1), .val false (.int .i64 x.2.2.1)]), .sv (.agg [.val false (.int .i64 x.2.2.2.1), .val false (.int .i64 x.2.2.2.2.1), .val false (.int .i64 x.2.2.2.2.2)])]) (fun x => []) (fun x => none) (fun x => hdif_O (hdif_v x.1 x.2.1 x.2.2.1 x.2.2.2.1 x.2.2.2.2.1 x.2.2.2.2.2))
  (by
    intro args hp x r h
    unfold hdif_m at h
    split at h
    · cases h
      exact ⟨rfl, fun nx => ⟨rfl, (fun i hi => by cases hi), fun id o0 ho => by simp [hlook] at ho⟩⟩
    · cases h)
  (fun x h => ⟨rfl, rfl, hdif_tree (hdif_spec x.1 x.2.1 x.2.2.1 x.2.2.2.1 x.2.2.2.2.1 x.2.2.2.2.2)⟩)

noncomputable def qdif_O (v : Int) : Out := ⟨.sv (.one (.val false (.int .i64 v))), [], 10, []⟩
noncomputable def qdif_rd (out : Out) : Option (Int) := some (rI (rvC out.v 0 0))
noncomputable def qdif_res (x0_0 x0_1 x0_2 x1_0 x1_1 x1_2 : Int) : Option (Int) := some (addS (addS (addS (0 : Int) (bif decide ((qsub_v x0_0 x0_1 x0_2 x1_0 x1_1 x1_2).fst < (0 : Int)) then IntKind.i64.wrap ((0 : Int) - (qsub_v x0_0 x0_1 x0_2 x1_0 x1_1 x1_2).fst) else (qsub_v x0_0 x0_1 x0_2 x1_0 x1_1 x1_2).fst)) (bif decide ((qsub_v x0_0 x0_1 x0_2 x1_0 x1_1 x1_2).snd.fst < (0 : Int)) then IntKind.i64.wrap ((0 : Int) - (qsub_v x0_0 x0_1 x0_2 x1_0 x1_1 x1_2).snd.fst) else (qsub_v x0_0 x0_1 x0_2 x1_0 x1_1 x1_2).snd.fst)) (bif decide ((qsub_v x0_0 x0_1 x0_2 x1_0 x1_1 x1_2).snd.snd < (0 : Int)) then IntKind.i64.wrap ((0 : Int) - (qsub_v x0_0 x0_1 x0_2 x1_0 x1_1 x1_2).snd.snd) else (qsub_v x0_0 x0_1 x0_2 x1_0 x1_1 x1_2).snd.snd))
set_option maxRecDepth 100000 in
theorem qdif_tree {x0_0 x0_1 x0_2 x1_0 x1_1 x1_2 v : Int} (h : qdif_res x0_0 x0_1 x0_2 x1_0 x1_1 x1_2 = some v) : CallOk Tryd.prog 37 [.sv (.agg [.val false (.int .i64 x0_0), .val false (.int .i64 x0_1), .val false (.int .i64 x0_2)]), .sv (.agg [.val false (.int .i64 x1_0), .val false (.int .i64 x1_1), .val false (.int .i64 x1_2)])] [] 0 (qdif_O v) :=
  eng_tree (C := (⟨consFilm3, fun _ _ _ => none, fun f => false, noFacts, fun _ => 104⟩ : Cfg Tryd.prog)) noFacts_ok (n := 30) (f := 37) qdif_O qdif_rd rfl (by kernel_rfl) h
noncomputable def qdif_v (x0_0 x0_1 x0_2 x1_0 x1_1 x1_2 : Int) : Int := addS (addS (addS (0 : Int) (bif decide ((qsub_v x0_0 x0_1 x0_2 x1_0 x1_1 x1_2).fst < (0 : Int)) then IntKind.i64.wrap ((0 : Int) - (qsub_v x0_0 x0_1 x0_2 x1_0 x1_1 x1_2).fst) else (qsub_v x0_0 x0_1 x0_2 x1_0 x1_1 x1_2).fst)) (bif decide ((qsub_v x0_0 x0_1 x0_2 x1_0 x1_1 x1_2).snd.fst < (0 : Int)) then IntKind.i64.wrap ((0 : Int) - (qsub_v x0_0 x0_1 x0_2 x1_0 x1_1 x1_2).snd.fst) else (qsub_v x0_0 x0_1 x0_2 x1_0 x1_1 x1_2).snd.fst)) (bif decide ((qsub_v x0_0 x0_1 x0_2 x1_0 x1_1 x1_2).snd.snd < (0 : Int)) then IntKind.i64.wrap ((0 : Int) - (qsub_v x0_0 x0_1 x0_2 x1_0 x1_1 x1_2).snd.snd) else (qsub_v x0_0 x0_1 x0_2 x1_0 x1_1 x1_2).snd.snd)
theorem qdif_spec (x0_0 x0_1 x0_2 x1_0 x1_1 x1_2 : Int) : qdif_res x0_0 x0_1 x0_2 x1_0 x1_1 x1_2 = some (qdif_v x0_0 x0_1 x0_2 x1_0 x1_1 x1_2) := by simp only [qdif_res, qdif_v, cond_some]
noncomputable def qdif_m (args : List RV) (hp : Hp) : Option ((Int × Int × Int × Int × Int × Int) × List Nat) := match args with
  | [.sv (.agg [.val _ (.int .i64 x0_0), .val _ (.int .i64 x0_1), .val _ (.int .i64 x0_2)]), .sv (.agg [.val _ (.int .i64 x1_0), .val _ (.int .i64 x1_1), .val _ (.int .i64 x1_2)])] => some ((x0_0, x0_1, x0_2, x1_0, x1_1, x1_2), [])
  | _ => none
noncomputable def qdif_con : Con Tryd.prog := conX Tryd.prog 37 qdif_m 0 (fun x => [.sv (.agg [.val false (.int .i64 x.1), .val false (.int .i64 x.2.1), .val false (.int .i64 x.2.2.1)]), .sv (.agg [.val false (.int .i64 x.2.2.2.1), .val false (.int .i64 x.2.2.2.2.1), .val false (.int .i64 x.2.2.2.2.2)])]) (fun x => []) (fun x => none) (fun x => qdif_O (qdif_v x.1 x.2.1 x.2.2.1 x.2.2.2.1 x.2.2.2.2.1 x.2.2.2.2.2))
  (by
    intro args hp x r h
    unfold qdif_m at h
    split at h
    · cases h
      exact ⟨rfl, fun nx => ⟨rfl, (fun i hi => by cases hi), fun id o0 ho => by simp [hlook] at ho⟩⟩
    · cases h)
  (fun x h => ⟨rfl, rfl, qdif_tree (qdif_spec x.1 x.2.1 x.2.2.1 x.2.2.2.1 x.2.2.2.2.1 x.2.2.2.2.2)⟩)
noncomputable def consLc1 : List (Con Tryd.prog) := [hdif_con, qdif_con] ++ consFilm3
end Go.Proofs.YtijidmcblpgfkaaDoor
