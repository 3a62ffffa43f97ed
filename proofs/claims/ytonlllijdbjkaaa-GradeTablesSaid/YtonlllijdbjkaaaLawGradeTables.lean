/- The law GradeTables holds for every input: the given statement, out of the law's walk. No condition. -/
import Derived.Test.YtonlllijdbjkaaaRows
import Derived.Test.YtonlllijdbjkaaaBase
import Derived.Test.YtonlllijdbjkaaaOpen
import Derived.Test.YtonlllijdbjkaaaGradeTables
import Derived.ProofKit
import Derived.OpenShut
import Derived.ChangeOld
set_option linter.unusedVariables false
namespace Go.Proofs.Ytonlllijdbjkaaa.lawGradeTables
open Go.ChangeShapes Go.WideShapes Go.ChangeAt Go.RowKit
open Go.ChangeMaps (open_string shut_string)

theorem own : ownKnob Try.prog.godebug = none := by kernel_rfl
theorem laidOut : laidOutB Try.prog = true := by kernel_rfl

set_option maxRecDepth 100000 in
theorem lifted (os : Os) (started : os.Started) (H : Type) (enc : TypeId × Value → H) :
    ReturnsInHanded {} Try.checked os 5 .any (Rows.gradeTablesSpec.pre6 enc Try.prog Try.f5 Rows.gradeTablesRow.domain false) (Rows.gradeTablesSpec.post enc Try.prog Try.f5 false true false false) := by
  refine returnsInHanded_of_change (C := Try.checked) own started (by kernel_rfl) Try.func5
    (ChangeSpec.witness6 (enc := enc) (C := Try.checked) false ⟨#[], #[.slice none 0 0, .slice none 0 0, .agg #[.int .i64 0, .int .i64 0, .slice none 0 0]], []⟩ 20 (by kernel_rfl) (by kernel_rfl) (by kernel_rfl) (by kernel_rfl)) ?_
  intro W base args ds gs before hval0 hW hcnd _
  have hval : ∀ (j : Nat) t v, Try.f5.params[j]? = some t → args[j]? = some v → Value.okWide Try.prog W .any base t v := hval0
  have hW' := hW
  obtain ⟨p, q, hA0, hV, rfl, hfz, hnd⟩ := hW
  have hA : DataW.TrodAll enc Try.prog W 0 (fun _ => true) true Try.f5.params.toList args.toList ds p := hA0
  rw [Try.params5] at hA hval
  obtain ⟨v0, vs0, d0, ds0, p0, q0, hargs, rfl, rfl, h0, r0⟩ := trodAll_cons hA
  obtain ⟨v1, vs1, d1, ds1, p1, q1, rfl, rfl, rfl, h1, r1⟩ := trodAll_cons r0
  obtain ⟨v2, vs2, d2, ds2, p2, q2, rfl, rfl, rfl, h2, r2⟩ := trodAll_cons r1
  obtain ⟨rfl, rfl, rfl⟩ := trodAll_nil r2
  obtain rfl : args = #[v0, v1, v2] := by cases args; simp_all
  obtain ⟨rfl, rfl⟩ := trodVars_none hV
  have k0 := h0
  have lt0 : ∀ x ∈ p0, x.block < W.heap.size := by obtain ⟨m, hm⟩ := k0; exact DataW.trod_lt m _ _ _ hm
  have k1 := h1
  have lt1 : ∀ x ∈ p1, x.block < W.heap.size := by obtain ⟨m, hm⟩ := k1; exact DataW.trod_lt m _ _ _ hm
  have k2 := h2
  have lt2 : ∀ x ∈ p2, x.block < W.heap.size := by obtain ⟨m, hm⟩ := k2; exact DataW.trod_lt m _ _ _ hm
  obtain ⟨ct0, K0⟩ := open_cells 20 [.sl [.int .i64, .int .i64]] (by kernel_rfl) h0
  have hval0 := (hval 0 22 v0 rfl rfl)
  obtain ⟨sa0, sl0, sc0, rfl⟩ := okWide_slice Try.underlying22 hval0
  obtain ⟨ct1, K1⟩ := open_cells 20 [.sl [.int .i64, .int .i64]] (by kernel_rfl) h1
  have hval1 := (hval 1 22 v1 rfl rfl)
  obtain ⟨sa1, sl1, sc1, rfl⟩ := okWide_slice Try.underlying22 hval1
  obtain ⟨ct2, K2⟩ := open_cells 20 [.int .i64, .int .i64, .sl [.int .u8, .int .u8, .int .u8]] (by kernel_rfl) h2
  have hval2 := (hval 2 36 v2 rfl rfl)
  obtain ⟨cs2, rfl, _⟩ := okWide_struct Try.underlying36 hval2
  clear hA0 hval0 hval
  obtain ⟨ct, K⟩ := (⟨_, (K0.append (K1.append (K2.append (CellsOk.nil W))))⟩ : ∃ ct, CellsOk W _ _ ct)
  refine (law_go [none, none, some 3] K (by rw [mkVals_one rfl, mkVals_one rfl, mkVals_agg (n := 3) K2.len]; rfl) (lgt_call (ct 0).rows (ct 1).rows (ct 2).int (ct 3).int (ct 4).rows (K.wf 4 _ rfl).2) (fun _ => rfl) rfl).mono fun e W' ⟨he, bel⟩ => ?_
  subst he
  exact ⟨_, rfl, _, _, _, [], _, [], hW', trodAll_mk1 (shut_bool Try.underlying4 _), (trodAll_cons_mk (Below.trod laidOut (by kernel_rfl) (of_decide_eq_true (by kernel_rfl)) k0 bel lt0) (trodAll_cons_mk (Below.trod laidOut (by kernel_rfl) (of_decide_eq_true (by kernel_rfl)) k1 bel lt1) (trodAll_cons_mk (Below.trod laidOut (by kernel_rfl) (of_decide_eq_true (by kernel_rfl)) k2 bel lt2) trodAll_mk0))), rfl, bel.frame _, fun h => by cases h⟩

theorem over : Rows.gradeTablesRow.holds Try.pinned (OpenSpec.ofChange Rows.gradeTablesSpec) :=
  OpenClaim.holds_of_wide 5 Try.f5 rfl rfl rfl rfl rfl rfl rfl ⟨rfl, rfl, rfl, rfl, rfl⟩ rfl rfl rfl rfl rfl (by kernel_rfl) Try.func5 (by kernel_rfl)
    (of_decide_eq_true (by kernel_rfl)) (by unfold Func.isWrapper; first | (rw [if_pos (by decide +kernel)]; kernel_rfl) | (rw [if_neg (by decide +kernel)]; exact ⟨rfl, rfl⟩))
    (fun os started H enc _ => lifted os started H enc)

theorem proved : Rows.GradeTablesSaid := over
#print axioms proved
end Go.Proofs.Ytonlllijdbjkaaa.lawGradeTables
