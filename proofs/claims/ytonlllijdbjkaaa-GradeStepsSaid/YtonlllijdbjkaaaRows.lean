/-
  No cell of these rows narrows 'for every input' (looked for: loops, veiled, ifaces, maps, wideKeys, modest, calm, conditions, laid).
  DERIVED. THE GIVEN ROWS OF THIS SEAT. 4 by the template 'for every input the law returns true; each argument reads behind the call as it read before'; 0 by the template 'total and deterministic' (their statements: YtonlllijdbjkaaaTotals.lean).
  GIVEN WITH THE SEED: the statements are not yours to turn. If you find one false, say at which input.
  Laid BY PROGRAM, IN A SANDBOX (cutbox-rows.mjs): the forced cells as the released guide's own fill.sh prints them over the translation 85c669c5a8605619… (all of the seat's roots in one cut). By AI agents, Wed Nov 11 2026. No macro, syntax, notation, axiom, sorry.
-/
import Derived.Test.YtonlllijdbjkaaaChecked
import GoSem.Claim
import GoSem.ClaimJoined
import GoSem.ClaimMapViews
import Derived.JoinedTies
import Derived.KernelRfl
namespace Go.Proofs.Ytonlllijdbjkaaa
/- THE CELL 'sum', in the pinned program and in every row, IS THE sha256 OF THE DUMP (.gsa) THAT YtonlllijdbjkaaaProg.lean LOADS. Nothing in Lean hashes anything: it is a label: what it is worth is what the hold of that sum in a sandbox is worth. -/
noncomputable def Try.pinned : Pinned := { name := "ytonlllijdbjkaaa", sum := "85c669c5a8605619806e136be1e8753891ac9e8a182744db0b7f162ab3927a56", checked := Try.checked }
namespace Rows
def none {H : Type} : Left H := { results := [], args := [] }

/-- 'zoetropelaw39.GradeCurves': WHATEVER THE INPUT: true; the input reads as it did. -/
def gradeCurvesSpec : ChangeSpec := { name := "gradeCurves", fn := fun _ => fun
  | [d1, d2] => { results := [.lit (.bool true)], args := [d1, d2] }
  | _ => none }
def gradeCurvesRow : OpenClaim := { program := "ytonlllijdbjkaaa", sum := "85c669c5a8605619806e136be1e8753891ac9e8a182744db0b7f162ab3927a56", func := "zoetrope/zoetropelaw39.GradeCurves", spec := "gradeCurves", apart := false }
def GradeCurvesSaid : Prop := gradeCurvesRow.holds Try.pinned (OpenSpec.ofChange gradeCurvesSpec)

/-- ITS FALSE NEIGHBOUR: 'it returns false'. Refute it at one input. -/
def gradeCurvesWrong : ChangeSpec := { name := "gradeCurves", fn := fun _ => fun
  | [d1, d2] => { results := [.lit (.bool false)], args := [d1, d2] }
  | _ => none }
def GradeCurvesWrongFalsely : Prop := gradeCurvesRow.holds Try.pinned (OpenSpec.ofChange gradeCurvesWrong)

/-- 'zoetropelaw39.GradeRises': WHATEVER THE INPUT: true; the input reads as it did. -/
def gradeRisesSpec : ChangeSpec := { name := "gradeRises", fn := fun _ => fun
  | [d1, d2, d3, d4, d5] => { results := [.lit (.bool true)], args := [d1, d2, d3, d4, d5] }
  | _ => none }
def gradeRisesRow : OpenClaim := { program := "ytonlllijdbjkaaa", sum := "85c669c5a8605619806e136be1e8753891ac9e8a182744db0b7f162ab3927a56", func := "zoetrope/zoetropelaw39.GradeRises", spec := "gradeRises", apart := false }
def GradeRisesSaid : Prop := gradeRisesRow.holds Try.pinned (OpenSpec.ofChange gradeRisesSpec)

/-- ITS FALSE NEIGHBOUR: 'it returns false'. Refute it at one input. -/
def gradeRisesWrong : ChangeSpec := { name := "gradeRises", fn := fun _ => fun
  | [d1, d2, d3, d4, d5] => { results := [.lit (.bool false)], args := [d1, d2, d3, d4, d5] }
  | _ => none }
def GradeRisesWrongFalsely : Prop := gradeRisesRow.holds Try.pinned (OpenSpec.ofChange gradeRisesWrong)

/-- 'zoetropelaw39.GradeTables': WHATEVER THE INPUT: true; the input reads as it did. -/
def gradeTablesSpec : ChangeSpec := { name := "gradeTables", fn := fun _ => fun
  | [d1, d2, d3] => { results := [.lit (.bool true)], args := [d1, d2, d3] }
  | _ => none }
def gradeTablesRow : OpenClaim := { program := "ytonlllijdbjkaaa", sum := "85c669c5a8605619806e136be1e8753891ac9e8a182744db0b7f162ab3927a56", func := "zoetrope/zoetropelaw39.GradeTables", spec := "gradeTables", apart := false }
def GradeTablesSaid : Prop := gradeTablesRow.holds Try.pinned (OpenSpec.ofChange gradeTablesSpec)

/-- ITS FALSE NEIGHBOUR: 'it returns false'. Refute it at one input. -/
def gradeTablesWrong : ChangeSpec := { name := "gradeTables", fn := fun _ => fun
  | [d1, d2, d3] => { results := [.lit (.bool false)], args := [d1, d2, d3] }
  | _ => none }
def GradeTablesWrongFalsely : Prop := gradeTablesRow.holds Try.pinned (OpenSpec.ofChange gradeTablesWrong)

/-- 'zoetropelaw39.GradeSteps': WHATEVER THE INPUT: true; the input reads as it did. -/
def gradeStepsSpec : ChangeSpec := { name := "gradeSteps", fn := fun _ => fun
  | [d1, d2] => { results := [.lit (.bool true)], args := [d1, d2] }
  | _ => none }
def gradeStepsRow : OpenClaim := { program := "ytonlllijdbjkaaa", sum := "85c669c5a8605619806e136be1e8753891ac9e8a182744db0b7f162ab3927a56", func := "zoetrope/zoetropelaw39.GradeSteps", spec := "gradeSteps", unfollowed := true, recurses := true, apart := false }
def GradeStepsSaid : Prop := gradeStepsRow.holds Try.pinned (OpenSpec.ofChange gradeStepsSpec)

/-- ITS FALSE NEIGHBOUR: 'it returns false'. Refute it at one input. -/
def gradeStepsWrong : ChangeSpec := { name := "gradeSteps", fn := fun _ => fun
  | [d1, d2] => { results := [.lit (.bool false)], args := [d1, d2] }
  | _ => none }
def GradeStepsWrongFalsely : Prop := gradeStepsRow.holds Try.pinned (OpenSpec.ofChange gradeStepsWrong)

/- THE SECOND FORM. 'bulk': how many values and letters a reading holds, each counted each time it is reached (what is shared counts as often as it is met; a slice's spare places count too). A statement '..UptoSaid' is the law's where the arguments, and the package variables that the reading takes, are together of bulk at most 1048576: NARROWER than '..Said'. Prove '..Said' where nothing that the law and all that it calls make is longer than what came in: it says more and counts as full. Else prove '..UptoSaid'. A law counts once. -/
mutual
def uptoBulk {H : Type} : DataW H → Nat
  | .lit (.string bytes) => bytes.length + 1
  | .lit _ => 1
  | .nil => 1
  | .ptr d => uptoBulk d + 1
  | .slice elems spare => uptoBulkAll elems + uptoBulkAll spare + 1
  | .agg parts => uptoBulkAll parts + 1
  | .iface _ d => uptoBulk d + 1
  | .map entries => uptoBulkEntries entries + 1
  | .held _ => 1
def uptoBulkAll {H : Type} : List (DataW H) → Nat
  | [] => 0
  | d :: r => uptoBulk d + uptoBulkAll r
def uptoBulkEntries {H : Type} : List (Lit × DataW H) → Nat
  | [] => 0
  | x :: r => uptoBulkEntry x + uptoBulkEntries r
def uptoBulkEntry {H : Type} : Lit × DataW H → Nat
  | (.string bytes, d) => bytes.length + uptoBulk d + 1
  | (_, d) => uptoBulk d + 1
 end
def uptoSmall : (H : Type) → List (DataW H) → Bool := fun _ ds => decide (uptoBulkAll ds ≤ 1048576)
def OpenSpec.upto (s : _root_.Go.ChangeSpec) : _root_.Go.OpenSpec := { _root_.Go.OpenSpec.ofChange s with cond := some uptoSmall }

/-- 'zoetropelaw39.GradeCurves', WHERE WHAT IT READS IS OF BULK AT MOST 1048576: true; the input reads as it did. -/
def gradeCurvesUptoRow : OpenClaim := { program := "ytonlllijdbjkaaa", sum := "85c669c5a8605619806e136be1e8753891ac9e8a182744db0b7f162ab3927a56", func := "zoetrope/zoetropelaw39.GradeCurves", spec := "gradeCurves", apart := false, narrowed := true }
def GradeCurvesUptoSaid : Prop := gradeCurvesUptoRow.holds Try.pinned (OpenSpec.upto gradeCurvesSpec)

/-- 'zoetropelaw39.GradeRises', WHERE WHAT IT READS IS OF BULK AT MOST 1048576: true; the input reads as it did. -/
def gradeRisesUptoRow : OpenClaim := { program := "ytonlllijdbjkaaa", sum := "85c669c5a8605619806e136be1e8753891ac9e8a182744db0b7f162ab3927a56", func := "zoetrope/zoetropelaw39.GradeRises", spec := "gradeRises", apart := false, narrowed := true }
def GradeRisesUptoSaid : Prop := gradeRisesUptoRow.holds Try.pinned (OpenSpec.upto gradeRisesSpec)

/-- 'zoetropelaw39.GradeTables', WHERE WHAT IT READS IS OF BULK AT MOST 1048576: true; the input reads as it did. -/
def gradeTablesUptoRow : OpenClaim := { program := "ytonlllijdbjkaaa", sum := "85c669c5a8605619806e136be1e8753891ac9e8a182744db0b7f162ab3927a56", func := "zoetrope/zoetropelaw39.GradeTables", spec := "gradeTables", apart := false, narrowed := true }
def GradeTablesUptoSaid : Prop := gradeTablesUptoRow.holds Try.pinned (OpenSpec.upto gradeTablesSpec)

/-- 'zoetropelaw39.GradeSteps', WHERE WHAT IT READS IS OF BULK AT MOST 1048576: true; the input reads as it did. -/
def gradeStepsUptoRow : OpenClaim := { program := "ytonlllijdbjkaaa", sum := "85c669c5a8605619806e136be1e8753891ac9e8a182744db0b7f162ab3927a56", func := "zoetrope/zoetropelaw39.GradeSteps", spec := "gradeSteps", unfollowed := true, recurses := true, apart := false, narrowed := true }
def GradeStepsUptoSaid : Prop := gradeStepsUptoRow.holds Try.pinned (OpenSpec.upto gradeStepsSpec)

end Rows
end Go.Proofs.Ytonlllijdbjkaaa
