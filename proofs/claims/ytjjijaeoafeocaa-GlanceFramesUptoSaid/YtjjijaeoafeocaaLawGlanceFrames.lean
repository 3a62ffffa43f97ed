/- The law GlanceFrames holds for every input of bulk at most 1048576: the given statement, out of the law's walk. The bound is the statement's own. -/
import Derived.Test.YtjjijaeoafeocaaRows
import Derived.Test.YtjjijaeoafeocaaBase
import Derived.Test.YtjjijaeoafeocaaOpen
import Derived.Test.YtjjijaeoafeocaaOpenB
import Derived.Test.YtjjijaeoafeocaaGlanceFrames
import Derived.ProofKit
import Derived.OpenShut
import Derived.ChangeOld
import Derived.JoinedCond
set_option linter.unusedVariables false
namespace Go.Proofs.Ytjjijaeoafeocaa.lawGlanceFrames
open Go.ChangeShapes Go.WideShapes Go.ChangeAt Go.RowKit
open Go.ChangeMaps (open_string shut_string)

theorem own : ownKnob Try.prog.godebug = none := by kernel_rfl
theorem laidOut : laidOutB Try.prog = true := by kernel_rfl

set_option maxRecDepth 100000 in
theorem lifted (os : Os) (started : os.Started) (H : Type) (enc : TypeId × Value → H) (F : Stop.Interp) :
    ReturnsInHanded {} Try.checked os 3 .any ((Rows.OpenSpec.upto Rows.glanceFramesSpec).pre6 enc Try.prog Try.f3 Rows.glanceFramesUptoRow.domain false) (((Rows.OpenSpec.upto Rows.glanceFramesSpec).at F).post enc Try.prog Try.f3 false true false false) := by
  refine returnsInHanded_of_cond (C := Try.checked) (s := Rows.OpenSpec.upto Rows.glanceFramesSpec) (k := Rows.uptoSmall) rfl own started (by kernel_rfl) Try.func3
    (OpenSpec.witness (enc := enc) (C := Try.checked) (s := Rows.OpenSpec.upto Rows.glanceFramesSpec) (k := Rows.uptoSmall) rfl false ⟨#[], #[.string .empty, .slice none 0 0], []⟩ 20 (by kernel_rfl) (by kernel_rfl) (by kernel_rfl)
      (x := ([.lit (.string []), .nil], [], [])) (by kernel_rfl) rfl (by kernel_rfl)) ?_
  intro W base args ds gs before hval0 hW hcnd hk _
  have hval : ∀ (j : Nat) t v, Try.f3.params[j]? = some t → args[j]? = some v → Value.okWide Try.prog W .any base t v := hval0
  have hW' := hW
  obtain ⟨p, q, hA0, hV, rfl, hfz, hnd⟩ := hW
  have hA : DataW.TrodAll enc Try.prog W 0 (fun _ => true) true Try.f3.params.toList args.toList ds p := hA0
  rw [Try.params3] at hA hval
  obtain ⟨v0, vs0, d0, ds0, p0, q0, hargs, rfl, rfl, h0, r0⟩ := trodAll_cons hA
  obtain ⟨v1, vs1, d1, ds1, p1, q1, rfl, rfl, rfl, h1, r1⟩ := trodAll_cons r0
  obtain ⟨rfl, rfl, rfl⟩ := trodAll_nil r1
  obtain rfl : args = #[v0, v1] := by cases args; simp_all
  obtain ⟨rfl, rfl⟩ := trodVars_none hV
  have k0 := h0
  have lt0 : ∀ x ∈ p0, x.block < W.heap.size := by obtain ⟨m, hm⟩ := k0; exact DataW.trod_lt m _ _ _ hm
  have k1 := h1
  have lt1 : ∀ x ∈ p1, x.block < W.heap.size := by obtain ⟨m, hm⟩ := k1; exact DataW.trod_lt m _ _ _ hm
  obtain ⟨ct0, K0⟩ := open_cellsU 20 [.str] (by kernel_rfl) h0 (by have := small_all hk; simp only [List.append_nil, Rows.uptoBulkAll] at this; omega)
  have hval0 := (hval 0 9 v0 rfl rfl)
  obtain ⟨a0, rfl⟩ := okWide_string Try.underlying9 hval0
  obtain ⟨ct1, K1⟩ := open_cellsU 20 [.sl [.str]] (by kernel_rfl) h1 (by have := small_all hk; simp only [List.append_nil, Rows.uptoBulkAll] at this; omega)
  have hval1 := (hval 1 22 v1 rfl rfl)
  obtain ⟨sa1, sl1, sc1, rfl⟩ := okWide_slice Try.underlying22 hval1
  clear hA0 hval0 hval
  obtain ⟨ct, KU⟩ := (⟨_, (K0.append (K1.append (CellsU.nil W)))⟩ : ∃ ct, CellsU W _ _ ct)
  have K := KU.ok
  refine (law_go [none, none] K (by rw [mkVals_one rfl, mkVals_one rfl]; rfl) (lgf_call (ct 0).str (ct 1).rows (KU.bd 0 _ rfl) (KU.bd 1 _ rfl).1 (KU.bd 1 _ rfl).2) (fun _ => rfl) rfl).mono fun e W' ⟨he, bel⟩ => ?_
  subst he
  exact ⟨_, rfl, _, _, _, [], _, [], hW', trodAll_mk1 (shut_bool Try.underlying4 _), (trodAll_cons_mk (Below.trod laidOut (by kernel_rfl) (of_decide_eq_true (by kernel_rfl)) k0 bel lt0) (trodAll_cons_mk (Below.trod laidOut (by kernel_rfl) (of_decide_eq_true (by kernel_rfl)) k1 bel lt1) trodAll_mk0)), rfl, bel.frame _, fun h => by cases h⟩

theorem proved : Rows.GlanceFramesUptoSaid :=
  OpenClaim.holds_of_cond 3 Try.f3 rfl rfl rfl rfl rfl rfl rfl ⟨rfl, rfl, rfl, rfl, rfl⟩ rfl rfl rfl rfl rfl (by kernel_rfl) Try.func3 (by kernel_rfl)
    (of_decide_eq_true (by kernel_rfl)) (by unfold Func.isWrapper; first | (rw [if_pos (by decide +kernel)]; kernel_rfl) | (rw [if_neg (by decide +kernel)]; exact ⟨rfl, rfl⟩))
    (fun os started H enc _ F => lifted os started H enc F)
#print axioms proved
end Go.Proofs.Ytjjijaeoafeocaa.lawGlanceFrames
