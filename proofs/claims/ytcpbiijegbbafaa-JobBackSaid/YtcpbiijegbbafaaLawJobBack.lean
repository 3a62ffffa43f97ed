/- The law JobBack holds for every input: the given statement, out of the law's walk. No condition. -/
import Derived.Test.YtcpbiijegbbafaaRows
import Derived.Test.YtcpbiijegbbafaaBase
import Derived.Test.YtcpbiijegbbafaaOpen
import Derived.Test.YtcpbiijegbbafaaJobBack
import Derived.ProofKit
import Derived.OpenShut
import Derived.ChangeOld
set_option linter.unusedVariables false
namespace Go.Proofs.Ytcpbiijegbbafaa.lawJobBack
open Go.ChangeShapes Go.WideShapes Go.ChangeAt Go.RowKit
open Go.ChangeMaps (open_string shut_string)

theorem own : ownKnob Try.prog.godebug = none := by kernel_rfl
theorem laidOut : laidOutB Try.prog = true := by kernel_rfl

set_option maxRecDepth 100000 in
theorem lifted (os : Os) (started : os.Started) (H : Type) (enc : TypeId × Value → H) :
    ReturnsInHanded {} Try.checked os 5 .any (Rows.jobBackSpec.pre6 enc Try.prog Try.f5 Rows.jobBackRow.domain false) (Rows.jobBackSpec.post enc Try.prog Try.f5 false true false false) := by
  refine returnsInHanded_of_change (C := Try.checked) own started (by kernel_rfl) Try.func5
    (ChangeSpec.witness6 (enc := enc) (C := Try.checked) false ⟨#[], #[.agg #[.int .i64 0, .int .i64 0, .int .i64 0, .int .i64 0, .int .i64 0, .int .i64 0, .int .u64 0, .int .i64 0, .int .i64 0, .int .i64 0, .int .i64 0, .int .i64 0, .int .i64 0, .slice none 0 0, .slice none 0 0, .slice none 0 0, .slice none 0 0], .slice none 0 0], []⟩ 20 (by kernel_rfl) (by kernel_rfl) (by kernel_rfl) (by kernel_rfl)) ?_
  intro W base args ds gs before hval0 hW hcnd _
  have hval : ∀ (j : Nat) t v, Try.f5.params[j]? = some t → args[j]? = some v → Value.okWide Try.prog W .any base t v := hval0
  have hW' := hW
  obtain ⟨p, q, hA0, hV, rfl, hfz, hnd⟩ := hW
  have hA : DataW.TrodAll enc Try.prog W 0 (fun _ => true) true Try.f5.params.toList args.toList ds p := hA0
  rw [Try.params5] at hA hval
  obtain ⟨v0, vs0, d0, ds0, p0, q0, hargs, rfl, rfl, h0, r0⟩ := trodAll_cons hA
  obtain ⟨v1, vs1, d1, ds1, p1, q1, rfl, rfl, rfl, h1, r1⟩ := trodAll_cons r0
  obtain ⟨rfl, rfl, rfl⟩ := trodAll_nil r1
  obtain rfl : args = #[v0, v1] := by cases args; simp_all
  obtain ⟨rfl, rfl⟩ := trodVars_none hV
  have k0 := h0
  have lt0 : ∀ x ∈ p0, x.block < W.heap.size := by obtain ⟨m, hm⟩ := k0; exact DataW.trod_lt m _ _ _ hm
  have k1 := h1
  have lt1 : ∀ x ∈ p1, x.block < W.heap.size := by obtain ⟨m, hm⟩ := k1; exact DataW.trod_lt m _ _ _ hm
  obtain ⟨ct0, K0⟩ := open_cells 20 [.int .i64, .int .i64, .int .i64, .int .i64, .int .i64, .int .i64, .int .u64, .int .i64, .int .i64, .int .i64, .int .i64, .int .i64, .int .i64, .sl [.int .i64, .int .i64, .int .i64, .int .i64, .int .i64], .sl [.int .i64, .sl [.int .i64, .int .i64, .int .i64, .int .i64]], .sl [.int .i64, .int .i64, .int .i64, .int .i64], .sl [.int .i64, .int .i64, .int .i64, .int .i64, .int .i64, .int .i64, .int .i64, .int .i64, .int .i64, .int .i64, .int .i64, .int .i64, .int .i64]] (by kernel_rfl) h0
  have hval0 := (hval 0 49 v0 rfl rfl)
  obtain ⟨cs0, rfl, _⟩ := okWide_struct Try.underlying49 hval0
  obtain ⟨ct1, K1⟩ := open_cells 20 [.sl [.int .u8]] (by kernel_rfl) h1
  have hval1 := (hval 1 22 v1 rfl rfl)
  obtain ⟨sa1, sl1, sc1, rfl⟩ := okWide_slice Try.underlying22 hval1
  clear hA0 hval0 hval
  obtain ⟨ct, K⟩ := (⟨_, (K0.append (K1.append (CellsOk.nil W)))⟩ : ∃ ct, CellsOk W _ _ ct)
  refine (law_go [some 17, none] K (by rw [mkVals_agg (n := 17) K0.len, mkVals_one rfl]; rfl) (ljb_call (ct 0).int (ct 1).int (ct 2).int (ct 3).int (ct 4).int (ct 5).int (ct 6).int (ct 7).int (ct 8).int (ct 9).int (ct 10).int (ct 11).int (ct 12).int (ct 13).rows (ct 14).rows (ct 15).rows (ct 16).rows (ct 17).rows (K.wf 14 _ rfl).1 (K.wf 6 _ rfl) (K.wf 17 _ rfl).2) (fun _ => rfl) rfl).mono fun e W' ⟨he, bel⟩ => ?_
  subst he
  exact ⟨_, rfl, _, _, _, [], _, [], hW', trodAll_mk1 (shut_bool Try.underlying4 _), (trodAll_cons_mk (Below.trod laidOut (by kernel_rfl) (of_decide_eq_true (by kernel_rfl)) k0 bel lt0) (trodAll_cons_mk (Below.trod laidOut (by kernel_rfl) (of_decide_eq_true (by kernel_rfl)) k1 bel lt1) trodAll_mk0)), rfl, bel.frame _, fun h => by cases h⟩

theorem over : Rows.jobBackRow.holds Try.pinned (OpenSpec.ofChange Rows.jobBackSpec) :=
  OpenClaim.holds_of_wide 5 Try.f5 rfl rfl rfl rfl rfl rfl rfl ⟨rfl, rfl, rfl, rfl, rfl⟩ rfl rfl rfl rfl rfl (by kernel_rfl) Try.func5 (by kernel_rfl)
    (of_decide_eq_true (by kernel_rfl)) (by unfold Func.isWrapper; first | (rw [if_pos (by decide +kernel)]; kernel_rfl) | (rw [if_neg (by decide +kernel)]; exact ⟨rfl, rfl⟩))
    (fun os started H enc _ => lifted os started H enc)

theorem proved : Rows.JobBackSaid := over
#print axioms proved
end Go.Proofs.Ytcpbiijegbbafaa.lawJobBack
