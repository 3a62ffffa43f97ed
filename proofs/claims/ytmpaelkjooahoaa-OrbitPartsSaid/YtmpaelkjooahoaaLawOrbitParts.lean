/- The law OrbitParts holds for every input: the given statement, out of the law's walk. No condition. -/
import Derived.Test.YtmpaelkjooahoaaRows
import Derived.Test.YtmpaelkjooahoaaBase
import Derived.Test.YtmpaelkjooahoaaOpen
import Derived.Test.YtmpaelkjooahoaaOrbitParts2
import Derived.ProofKit
import Derived.OpenShut
import Derived.ChangeOld
set_option linter.unusedVariables false
namespace Go.Proofs.Ytmpaelkjooahoaa.lawOrbitParts
open Go.ChangeShapes Go.WideShapes Go.ChangeAt Go.RowKit
open Go.ChangeMaps (open_string shut_string)

theorem own : ownKnob Try.prog.godebug = none := by kernel_rfl
theorem laidOut : laidOutB Try.prog = true := by kernel_rfl

set_option maxRecDepth 100000 in
theorem lifted (os : Os) (started : os.Started) (H : Type) (enc : TypeId × Value → H) :
    ReturnsInHanded {} Try.checked os 7 .any (Rows.orbitPartsSpec.pre6 enc Try.prog Try.f7 Rows.orbitPartsRow.domain false) (Rows.orbitPartsSpec.post enc Try.prog Try.f7 false true false false) := by
  refine returnsInHanded_of_change (C := Try.checked) own started (by kernel_rfl) Try.func7
    (ChangeSpec.witness6 (enc := enc) (C := Try.checked) false ⟨#[], #[.agg #[.int .i64 0, .slice none 0 0], .agg #[.int .i64 0, .slice none 0 0], .int .i64 0, .int .i64 0], []⟩ 20 (by kernel_rfl) (by kernel_rfl) (by kernel_rfl) (by kernel_rfl)) ?_
  intro W base args ds gs before hval0 hW hcnd _
  have hval : ∀ (j : Nat) t v, Try.f7.params[j]? = some t → args[j]? = some v → Value.okWide Try.prog W .any base t v := hval0
  have hW' := hW
  obtain ⟨p, q, hA0, hV, rfl, hfz, hnd⟩ := hW
  have hA : DataW.TrodAll enc Try.prog W 0 (fun _ => true) true Try.f7.params.toList args.toList ds p := hA0
  rw [Try.params7] at hA hval
  obtain ⟨v0, vs0, d0, ds0, p0, q0, hargs, rfl, rfl, h0, r0⟩ := trodAll_cons hA
  obtain ⟨v1, vs1, d1, ds1, p1, q1, rfl, rfl, rfl, h1, r1⟩ := trodAll_cons r0
  obtain ⟨v2, vs2, d2, ds2, p2, q2, rfl, rfl, rfl, h2, r2⟩ := trodAll_cons r1
  obtain ⟨v3, vs3, d3, ds3, p3, q3, rfl, rfl, rfl, h3, r3⟩ := trodAll_cons r2
  obtain ⟨rfl, rfl, rfl⟩ := trodAll_nil r3
  obtain rfl : args = #[v0, v1, v2, v3] := by cases args; simp_all
  obtain ⟨rfl, rfl⟩ := trodVars_none hV
  have k0 := h0
  have lt0 : ∀ x ∈ p0, x.block < W.heap.size := by obtain ⟨m, hm⟩ := k0; exact DataW.trod_lt m _ _ _ hm
  have k1 := h1
  have lt1 : ∀ x ∈ p1, x.block < W.heap.size := by obtain ⟨m, hm⟩ := k1; exact DataW.trod_lt m _ _ _ hm
  have k2 := h2
  have lt2 : ∀ x ∈ p2, x.block < W.heap.size := by obtain ⟨m, hm⟩ := k2; exact DataW.trod_lt m _ _ _ hm
  have k3 := h3
  have lt3 : ∀ x ∈ p3, x.block < W.heap.size := by obtain ⟨m, hm⟩ := k3; exact DataW.trod_lt m _ _ _ hm
  obtain ⟨ct0, K0⟩ := open_cells 20 [.int .i64, .sl [.int .i64, .int .i64, .int .i64, .int .i64]] (by kernel_rfl) h0
  have hval0 := (hval 0 39 v0 rfl rfl)
  obtain ⟨cs0, rfl, _⟩ := okWide_struct Try.underlying39 hval0
  obtain ⟨ct1, K1⟩ := open_cells 20 [.int .i64, .sl [.int .i64, .int .i64, .int .i64, .int .i64]] (by kernel_rfl) h1
  have hval1 := (hval 1 39 v1 rfl rfl)
  obtain ⟨cs1, rfl, _⟩ := okWide_struct Try.underlying39 hval1
  obtain ⟨ct2, K2⟩ := open_cells 20 [.int .i64] (by kernel_rfl) h2
  have hval2 := (hval 2 2 v2 rfl rfl)
  obtain ⟨a2, rfl⟩ : ∃ a, v2 = .int .i64 a := by obtain ⟨a, hh, _⟩ := open_int Try.underlying2 hval2 h2; exact ⟨a, hh⟩
  obtain ⟨ct3, K3⟩ := open_cells 20 [.int .i64] (by kernel_rfl) h3
  have hval3 := (hval 3 2 v3 rfl rfl)
  obtain ⟨a3, rfl⟩ : ∃ a, v3 = .int .i64 a := by obtain ⟨a, hh, _⟩ := open_int Try.underlying2 hval3 h3; exact ⟨a, hh⟩
  clear hA0 hval0 hval
  obtain ⟨ct, K⟩ := (⟨_, (K0.append (K1.append (K2.append (K3.append (CellsOk.nil W)))))⟩ : ∃ ct, CellsOk W _ _ ct)
  refine (law_go [some 2, some 2, none, none] K (by rw [mkVals_agg (n := 2) K0.len, mkVals_agg (n := 2) K1.len, mkVals_one rfl, mkVals_one rfl]; rfl) (lop_call (ct 0).int (ct 1).rows (ct 2).int (ct 3).rows (ct 4).int (ct 5).int) (fun _ => rfl) rfl).mono fun e W' ⟨he, bel⟩ => ?_
  subst he
  exact ⟨_, rfl, _, _, _, [], _, [], hW', trodAll_mk1 (shut_bool Try.underlying4 _), (trodAll_cons_mk (Below.trod laidOut (by kernel_rfl) (of_decide_eq_true (by kernel_rfl)) k0 bel lt0) (trodAll_cons_mk (Below.trod laidOut (by kernel_rfl) (of_decide_eq_true (by kernel_rfl)) k1 bel lt1) (trodAll_cons_mk (Below.trod laidOut (by kernel_rfl) (of_decide_eq_true (by kernel_rfl)) k2 bel lt2) (trodAll_cons_mk (Below.trod laidOut (by kernel_rfl) (of_decide_eq_true (by kernel_rfl)) k3 bel lt3) trodAll_mk0)))), rfl, bel.frame _, fun h => by cases h⟩

theorem over : Rows.orbitPartsRow.holds Try.pinned (OpenSpec.ofChange Rows.orbitPartsSpec) :=
  OpenClaim.holds_of_wide 7 Try.f7 rfl rfl rfl rfl rfl rfl rfl ⟨rfl, rfl, rfl, rfl, rfl⟩ rfl rfl rfl rfl rfl (by kernel_rfl) Try.func7 (by kernel_rfl)
    (of_decide_eq_true (by kernel_rfl)) (by unfold Func.isWrapper; first | (rw [if_pos (by decide +kernel)]; kernel_rfl) | (rw [if_neg (by decide +kernel)]; exact ⟨rfl, rfl⟩))
    (fun os started H enc _ => lifted os started H enc)

theorem proved : Rows.OrbitPartsSaid := over
#print axioms proved
end Go.Proofs.Ytmpaelkjooahoaa.lawOrbitParts
