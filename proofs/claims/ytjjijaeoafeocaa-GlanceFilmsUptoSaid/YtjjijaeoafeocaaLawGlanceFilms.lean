/- The law GlanceFilms holds for every input of bulk at most 1048576: the given statement, out of the law's walk. The bound is the statement's own. -/
import Derived.Test.YtjjijaeoafeocaaRows
import Derived.Test.YtjjijaeoafeocaaBase
import Derived.Test.YtjjijaeoafeocaaOpen
import Derived.Test.YtjjijaeoafeocaaOpenB
import Derived.Test.YtjjijaeoafeocaaGlanceFilms
import Derived.ProofKit
import Derived.OpenShut
import Derived.ChangeOld
import Derived.JoinedCond
set_option linter.unusedVariables false
namespace Go.Proofs.Ytjjijaeoafeocaa.lawGlanceFilms
open Go.ChangeShapes Go.WideShapes Go.ChangeAt Go.RowKit
open Go.ChangeMaps (open_string shut_string)

theorem own : ownKnob Try.prog.godebug = none := by kernel_rfl
theorem laidOut : laidOutB Try.prog = true := by kernel_rfl

set_option maxRecDepth 100000 in
theorem lifted (os : Os) (started : os.Started) (H : Type) (enc : TypeId × Value → H) (F : Stop.Interp) :
    ReturnsInHanded {} Try.checked os 6 .any ((Rows.OpenSpec.upto Rows.glanceFilmsSpec).pre6 enc Try.prog Try.f6 Rows.glanceFilmsUptoRow.domain false) (((Rows.OpenSpec.upto Rows.glanceFilmsSpec).at F).post enc Try.prog Try.f6 false true false false) := by
  refine returnsInHanded_of_cond (C := Try.checked) (s := Rows.OpenSpec.upto Rows.glanceFilmsSpec) (k := Rows.uptoSmall) rfl own started (by kernel_rfl) Try.func6
    (OpenSpec.witness (enc := enc) (C := Try.checked) (s := Rows.OpenSpec.upto Rows.glanceFilmsSpec) (k := Rows.uptoSmall) rfl false ⟨#[], #[.agg #[.int .i64 0, .int .i64 0, .slice none 0 0, .slice none 0 0, .slice none 0 0, .slice none 0 0, .slice none 0 0, .slice none 0 0]], []⟩ 20 (by kernel_rfl) (by kernel_rfl) (by kernel_rfl)
      (x := ([.agg [.agg [.lit (.int .i64 0), .lit (.int .i64 0), .nil], .nil, .nil, .nil, .nil, .nil]], [], [])) (by kernel_rfl) rfl (by kernel_rfl)) ?_
  intro W base args ds gs before hval0 hW hcnd hk _
  have hval : ∀ (j : Nat) t v, Try.f6.params[j]? = some t → args[j]? = some v → Value.okWide Try.prog W .any base t v := hval0
  have hW' := hW
  obtain ⟨p, q, hA0, hV, rfl, hfz, hnd⟩ := hW
  have hA : DataW.TrodAll enc Try.prog W 0 (fun _ => true) true Try.f6.params.toList args.toList ds p := hA0
  rw [Try.params6] at hA hval
  obtain ⟨v0, vs0, d0, ds0, p0, q0, hargs, rfl, rfl, h0, r0⟩ := trodAll_cons hA
  obtain ⟨rfl, rfl, rfl⟩ := trodAll_nil r0
  obtain rfl : args = #[v0] := by cases args; simp_all
  obtain ⟨rfl, rfl⟩ := trodVars_none hV
  have k0 := h0
  have lt0 : ∀ x ∈ p0, x.block < W.heap.size := by obtain ⟨m, hm⟩ := k0; exact DataW.trod_lt m _ _ _ hm
  obtain ⟨ct0, K0⟩ := open_cellsU 20 [.int .i64, .int .i64, .sl [.int .i64, .int .i64, .int .i64], .sl [.int .i64], .sl [.int .i64, .int .i64, .int .i64], .sl [.int .i64, .int .i64, .int .i64], .sl [.int .i64], .sl [.int .i64]] (by kernel_rfl) h0 (by have := small_all hk; simp only [List.append_nil, Rows.uptoBulkAll] at this; omega)
  have hval0 := (hval 0 56 v0 rfl rfl)
  obtain ⟨cs0, rfl, _⟩ := okWide_struct Try.underlying56 hval0
  clear hA0 hval0 hval
  obtain ⟨ct, KU⟩ := (⟨_, (K0.append (CellsU.nil W))⟩ : ∃ ct, CellsU W _ _ ct)
  have K := KU.ok
  refine (law_go [some 8] K (by rw [mkVals_agg (n := 8) K0.ok.len]; rfl) (lgq_call (ct 0).int (ct 1).int (ct 2).rows (ct 3).rows (ct 4).rows (ct 5).rows (ct 6).rows (ct 7).rows (KU.bd 2 _ rfl).1 (KU.bd 3 _ rfl).1 (KU.bd 4 _ rfl).1 (KU.bd 5 _ rfl).1 (KU.bd 6 _ rfl).1 (KU.bd 7 _ rfl).1) (fun _ => rfl) rfl).mono fun e W' ⟨he, bel⟩ => ?_
  subst he
  exact ⟨_, rfl, _, _, _, [], _, [], hW', trodAll_mk1 (shut_bool Try.underlying4 _), (trodAll_cons_mk (Below.trod laidOut (by kernel_rfl) (of_decide_eq_true (by kernel_rfl)) k0 bel lt0) trodAll_mk0), rfl, bel.frame _, fun h => by cases h⟩

theorem proved : Rows.GlanceFilmsUptoSaid :=
  OpenClaim.holds_of_cond 6 Try.f6 rfl rfl rfl rfl rfl rfl rfl ⟨rfl, rfl, rfl, rfl, rfl⟩ rfl rfl rfl rfl rfl (by kernel_rfl) Try.func6 (by kernel_rfl)
    (of_decide_eq_true (by kernel_rfl)) (by unfold Func.isWrapper; first | (rw [if_pos (by decide +kernel)]; kernel_rfl) | (rw [if_neg (by decide +kernel)]; exact ⟨rfl, rfl⟩))
    (fun os started H enc _ F => lifted os started H enc F)
#print axioms proved
end Go.Proofs.Ytjjijaeoafeocaa.lawGlanceFilms
