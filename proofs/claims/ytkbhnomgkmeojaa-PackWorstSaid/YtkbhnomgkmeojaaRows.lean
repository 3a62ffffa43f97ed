/-
  No cell of these rows narrows 'for every input' (looked for: loops, veiled, ifaces, maps, wideKeys, modest, calm, conditions, laid).
  DERIVED. THE GIVEN ROWS OF THIS SEAT. 12 by the template 'for every input the law returns true; each argument reads behind the call as it read before'; 0 by the template 'total and deterministic' (their statements: YtkbhnomgkmeojaaTotals.lean).
  GIVEN WITH THE SEED: the statements are not yours to turn. If you find one false, say at which input.
  Laid BY PROGRAM, IN A SANDBOX (cutbox-rows.mjs): the forced cells as the released guide's own fill.sh prints them over the translation 4efd6d631683c71f… (all of the seat's roots in one cut). By AI agents, Wed Nov 11 2026. No macro, syntax, notation, axiom, sorry.
-/
import Derived.Test.YtkbhnomgkmeojaaChecked
import GoSem.Claim
import GoSem.ClaimJoined
import GoSem.ClaimMapViews
import Derived.JoinedTies
import Derived.KernelRfl
namespace Go.Proofs.Ytkbhnomgkmeojaa
/- THE CELL 'sum', in the pinned program and in every row, IS THE sha256 OF THE DUMP (.gsa) THAT YtkbhnomgkmeojaaProg.lean LOADS. Nothing in Lean hashes anything: it is a label: what it is worth is what the hold of that sum in a sandbox is worth. -/
noncomputable def Try.pinned : Pinned := { name := "ytkbhnomgkmeojaa", sum := "4efd6d631683c71fd43cdc4f9b07887cc3d319c63bcdc2018bb03f454ff7732c", checked := Try.checked }
namespace Rows
def none {H : Type} : Left H := { results := [], args := [] }

/-- 'zoetropelaw05.HueLists': WHATEVER THE INPUT: true; the input reads as it did. -/
def hueListsSpec : ChangeSpec := { name := "hueLists", fn := fun _ => fun
  | [d1, d2] => { results := [.lit (.bool true)], args := [d1, d2] }
  | _ => none }
def hueListsRow : OpenClaim := { program := "ytkbhnomgkmeojaa", sum := "4efd6d631683c71fd43cdc4f9b07887cc3d319c63bcdc2018bb03f454ff7732c", func := "zoetrope/zoetropelaw05.HueLists", spec := "hueLists", unfollowed := true, recurses := true, apart := false }
def HueListsSaid : Prop := hueListsRow.holds Try.pinned (OpenSpec.ofChange hueListsSpec)

/-- ITS FALSE NEIGHBOUR: 'it returns false'. Refute it at one input. -/
def hueListsWrong : ChangeSpec := { name := "hueLists", fn := fun _ => fun
  | [d1, d2] => { results := [.lit (.bool false)], args := [d1, d2] }
  | _ => none }
def HueListsWrongFalsely : Prop := hueListsRow.holds Try.pinned (OpenSpec.ofChange hueListsWrong)

/-- 'zoetropelaw39.GradeCurves': WHATEVER THE INPUT: true; the input reads as it did. -/
def gradeCurvesSpec : ChangeSpec := { name := "gradeCurves", fn := fun _ => fun
  | [d1, d2] => { results := [.lit (.bool true)], args := [d1, d2] }
  | _ => none }
def gradeCurvesRow : OpenClaim := { program := "ytkbhnomgkmeojaa", sum := "4efd6d631683c71fd43cdc4f9b07887cc3d319c63bcdc2018bb03f454ff7732c", func := "zoetrope/zoetropelaw39.GradeCurves", spec := "gradeCurves", apart := false }
def GradeCurvesSaid : Prop := gradeCurvesRow.holds Try.pinned (OpenSpec.ofChange gradeCurvesSpec)

/-- ITS FALSE NEIGHBOUR: 'it returns false'. Refute it at one input. -/
def gradeCurvesWrong : ChangeSpec := { name := "gradeCurves", fn := fun _ => fun
  | [d1, d2] => { results := [.lit (.bool false)], args := [d1, d2] }
  | _ => none }
def GradeCurvesWrongFalsely : Prop := gradeCurvesRow.holds Try.pinned (OpenSpec.ofChange gradeCurvesWrong)

/-- 'zoetropelaw39.GradeRises': WHATEVER THE INPUT: true; the input reads as it did. -/
def gradeRisesSpec : ChangeSpec := { name := "gradeRises", fn := fun _ => fun
  | [d1, d2, d3, d4, d5] => { results := [.lit (.bool true)], args := [d1, d2, d3, d4, d5] }
  | _ => none }
def gradeRisesRow : OpenClaim := { program := "ytkbhnomgkmeojaa", sum := "4efd6d631683c71fd43cdc4f9b07887cc3d319c63bcdc2018bb03f454ff7732c", func := "zoetrope/zoetropelaw39.GradeRises", spec := "gradeRises", apart := false }
def GradeRisesSaid : Prop := gradeRisesRow.holds Try.pinned (OpenSpec.ofChange gradeRisesSpec)

/-- ITS FALSE NEIGHBOUR: 'it returns false'. Refute it at one input. -/
def gradeRisesWrong : ChangeSpec := { name := "gradeRises", fn := fun _ => fun
  | [d1, d2, d3, d4, d5] => { results := [.lit (.bool false)], args := [d1, d2, d3, d4, d5] }
  | _ => none }
def GradeRisesWrongFalsely : Prop := gradeRisesRow.holds Try.pinned (OpenSpec.ofChange gradeRisesWrong)

/-- 'zoetropelaw39.GradeTables': WHATEVER THE INPUT: true; the input reads as it did. -/
def gradeTablesSpec : ChangeSpec := { name := "gradeTables", fn := fun _ => fun
  | [d1, d2, d3] => { results := [.lit (.bool true)], args := [d1, d2, d3] }
  | _ => none }
def gradeTablesRow : OpenClaim := { program := "ytkbhnomgkmeojaa", sum := "4efd6d631683c71fd43cdc4f9b07887cc3d319c63bcdc2018bb03f454ff7732c", func := "zoetrope/zoetropelaw39.GradeTables", spec := "gradeTables", apart := false }
def GradeTablesSaid : Prop := gradeTablesRow.holds Try.pinned (OpenSpec.ofChange gradeTablesSpec)

/-- ITS FALSE NEIGHBOUR: 'it returns false'. Refute it at one input. -/
def gradeTablesWrong : ChangeSpec := { name := "gradeTables", fn := fun _ => fun
  | [d1, d2, d3] => { results := [.lit (.bool false)], args := [d1, d2, d3] }
  | _ => none }
def GradeTablesWrongFalsely : Prop := gradeTablesRow.holds Try.pinned (OpenSpec.ofChange gradeTablesWrong)

/-- 'zoetropelaw39.GradeSteps': WHATEVER THE INPUT: true; the input reads as it did. -/
def gradeStepsSpec : ChangeSpec := { name := "gradeSteps", fn := fun _ => fun
  | [d1, d2] => { results := [.lit (.bool true)], args := [d1, d2] }
  | _ => none }
def gradeStepsRow : OpenClaim := { program := "ytkbhnomgkmeojaa", sum := "4efd6d631683c71fd43cdc4f9b07887cc3d319c63bcdc2018bb03f454ff7732c", func := "zoetrope/zoetropelaw39.GradeSteps", spec := "gradeSteps", unfollowed := true, recurses := true, apart := false }
def GradeStepsSaid : Prop := gradeStepsRow.holds Try.pinned (OpenSpec.ofChange gradeStepsSpec)

/-- ITS FALSE NEIGHBOUR: 'it returns false'. Refute it at one input. -/
def gradeStepsWrong : ChangeSpec := { name := "gradeSteps", fn := fun _ => fun
  | [d1, d2] => { results := [.lit (.bool false)], args := [d1, d2] }
  | _ => none }
def GradeStepsWrongFalsely : Prop := gradeStepsRow.holds Try.pinned (OpenSpec.ofChange gradeStepsWrong)

/-- 'zoetropelaw19.WarpBetween': WHATEVER THE INPUT: true; the input reads as it did. -/
def warpBetweenSpec : ChangeSpec := { name := "warpBetween", fn := fun _ => fun
  | [d1, d2] => { results := [.lit (.bool true)], args := [d1, d2] }
  | _ => none }
def warpBetweenRow : OpenClaim := { program := "ytkbhnomgkmeojaa", sum := "4efd6d631683c71fd43cdc4f9b07887cc3d319c63bcdc2018bb03f454ff7732c", func := "zoetrope/zoetropelaw19.WarpBetween", spec := "warpBetween", unfollowed := true, recurses := true, apart := false }
def WarpBetweenSaid : Prop := warpBetweenRow.holds Try.pinned (OpenSpec.ofChange warpBetweenSpec)

/-- ITS FALSE NEIGHBOUR: 'it returns false'. Refute it at one input. -/
def warpBetweenWrong : ChangeSpec := { name := "warpBetween", fn := fun _ => fun
  | [d1, d2] => { results := [.lit (.bool false)], args := [d1, d2] }
  | _ => none }
def WarpBetweenWrongFalsely : Prop := warpBetweenRow.holds Try.pinned (OpenSpec.ofChange warpBetweenWrong)

/-- 'zoetropelaw19.WarpBlends': WHATEVER THE INPUT: true; the input reads as it did. -/
def warpBlendsSpec : ChangeSpec := { name := "warpBlends", fn := fun _ => fun
  | [d1, d2, d3] => { results := [.lit (.bool true)], args := [d1, d2, d3] }
  | _ => none }
def warpBlendsRow : OpenClaim := { program := "ytkbhnomgkmeojaa", sum := "4efd6d631683c71fd43cdc4f9b07887cc3d319c63bcdc2018bb03f454ff7732c", func := "zoetrope/zoetropelaw19.WarpBlends", spec := "warpBlends", unfollowed := true, recurses := true, apart := false }
def WarpBlendsSaid : Prop := warpBlendsRow.holds Try.pinned (OpenSpec.ofChange warpBlendsSpec)

/-- ITS FALSE NEIGHBOUR: 'it returns false'. Refute it at one input. -/
def warpBlendsWrong : ChangeSpec := { name := "warpBlends", fn := fun _ => fun
  | [d1, d2, d3] => { results := [.lit (.bool false)], args := [d1, d2, d3] }
  | _ => none }
def WarpBlendsWrongFalsely : Prop := warpBlendsRow.holds Try.pinned (OpenSpec.ofChange warpBlendsWrong)

/-- 'zoetropelaw04.DiceGoes': WHATEVER THE INPUT: true; the input reads as it did. -/
def diceGoesSpec : ChangeSpec := { name := "diceGoes", fn := fun _ => fun
  | [d1, d2] => { results := [.lit (.bool true)], args := [d1, d2] }
  | _ => none }
def diceGoesRow : OpenClaim := { program := "ytkbhnomgkmeojaa", sum := "4efd6d631683c71fd43cdc4f9b07887cc3d319c63bcdc2018bb03f454ff7732c", func := "zoetrope/zoetropelaw04.DiceGoes", spec := "diceGoes", apart := false }
def DiceGoesSaid : Prop := diceGoesRow.holds Try.pinned (OpenSpec.ofChange diceGoesSpec)

/-- ITS FALSE NEIGHBOUR: 'it returns false'. Refute it at one input. -/
def diceGoesWrong : ChangeSpec := { name := "diceGoes", fn := fun _ => fun
  | [d1, d2] => { results := [.lit (.bool false)], args := [d1, d2] }
  | _ => none }
def DiceGoesWrongFalsely : Prop := diceGoesRow.holds Try.pinned (OpenSpec.ofChange diceGoesWrong)

/-- 'zoetropelaw29.PackPresses': WHATEVER THE INPUT: true; the input reads as it did. -/
def packPressesSpec : ChangeSpec := { name := "packPresses", fn := fun _ => fun
  | [d] => { results := [.lit (.bool true)], args := [d] }
  | _ => none }
def packPressesRow : OpenClaim := { program := "ytkbhnomgkmeojaa", sum := "4efd6d631683c71fd43cdc4f9b07887cc3d319c63bcdc2018bb03f454ff7732c", func := "zoetrope/zoetropelaw29.PackPresses", spec := "packPresses", apart := false }
def PackPressesSaid : Prop := packPressesRow.holds Try.pinned (OpenSpec.ofChange packPressesSpec)

/-- ITS FALSE NEIGHBOUR: 'it returns false'. Refute it at one input. -/
def packPressesWrong : ChangeSpec := { name := "packPresses", fn := fun _ => fun
  | [d] => { results := [.lit (.bool false)], args := [d] }
  | _ => none }
def PackPressesWrongFalsely : Prop := packPressesRow.holds Try.pinned (OpenSpec.ofChange packPressesWrong)

/-- 'zoetropelaw29.PackWorst': WHATEVER THE INPUT: true; the input reads as it did. -/
def packWorstSpec : ChangeSpec := { name := "packWorst", fn := fun _ => fun
  | [d] => { results := [.lit (.bool true)], args := [d] }
  | _ => none }
def packWorstRow : OpenClaim := { program := "ytkbhnomgkmeojaa", sum := "4efd6d631683c71fd43cdc4f9b07887cc3d319c63bcdc2018bb03f454ff7732c", func := "zoetrope/zoetropelaw29.PackWorst", spec := "packWorst", apart := false }
def PackWorstSaid : Prop := packWorstRow.holds Try.pinned (OpenSpec.ofChange packWorstSpec)

/-- ITS FALSE NEIGHBOUR: 'it returns false'. Refute it at one input. -/
def packWorstWrong : ChangeSpec := { name := "packWorst", fn := fun _ => fun
  | [d] => { results := [.lit (.bool false)], args := [d] }
  | _ => none }
def PackWorstWrongFalsely : Prop := packWorstRow.holds Try.pinned (OpenSpec.ofChange packWorstWrong)

/-- 'zoetropelaw29.PackBack': WHATEVER THE INPUT: true; the input reads as it did. -/
def packBackSpec : ChangeSpec := { name := "packBack", fn := fun _ => fun
  | [d1, d2] => { results := [.lit (.bool true)], args := [d1, d2] }
  | _ => none }
def packBackRow : OpenClaim := { program := "ytkbhnomgkmeojaa", sum := "4efd6d631683c71fd43cdc4f9b07887cc3d319c63bcdc2018bb03f454ff7732c", func := "zoetrope/zoetropelaw29.PackBack", spec := "packBack", apart := false }
def PackBackSaid : Prop := packBackRow.holds Try.pinned (OpenSpec.ofChange packBackSpec)

/-- ITS FALSE NEIGHBOUR: 'it returns false'. Refute it at one input. -/
def packBackWrong : ChangeSpec := { name := "packBack", fn := fun _ => fun
  | [d1, d2] => { results := [.lit (.bool false)], args := [d1, d2] }
  | _ => none }
def PackBackWrongFalsely : Prop := packBackRow.holds Try.pinned (OpenSpec.ofChange packBackWrong)

/-- 'zoetropelaw29.PackSpreads': WHATEVER THE INPUT: true; the input reads as it did. -/
def packSpreadsSpec : ChangeSpec := { name := "packSpreads", fn := fun _ => fun
  | [d1, d2] => { results := [.lit (.bool true)], args := [d1, d2] }
  | _ => none }
def packSpreadsRow : OpenClaim := { program := "ytkbhnomgkmeojaa", sum := "4efd6d631683c71fd43cdc4f9b07887cc3d319c63bcdc2018bb03f454ff7732c", func := "zoetrope/zoetropelaw29.PackSpreads", spec := "packSpreads", apart := false }
def PackSpreadsSaid : Prop := packSpreadsRow.holds Try.pinned (OpenSpec.ofChange packSpreadsSpec)

/-- ITS FALSE NEIGHBOUR: 'it returns false'. Refute it at one input. -/
def packSpreadsWrong : ChangeSpec := { name := "packSpreads", fn := fun _ => fun
  | [d1, d2] => { results := [.lit (.bool false)], args := [d1, d2] }
  | _ => none }
def PackSpreadsWrongFalsely : Prop := packSpreadsRow.holds Try.pinned (OpenSpec.ofChange packSpreadsWrong)

/- THE SECOND FORM. 'bulk': how many values and letters a reading holds, each counted each time it is reached (what is shared counts as often as it is met; a slice's spare places count too). A statement '..UptoSaid' is the law's where the arguments, and the package variables that the reading takes, are together of bulk at most 1048576: NARROWER than '..Said'. Prove '..Said' where nothing that the law and all that it calls make is longer than what came in: it says more and counts as full. Else prove '..UptoSaid'. A law counts once. -/
mutual
def uptoBulk {H : Type} : DataW H → Nat
  | .lit (.string bytes) => bytes.length + 1
  | .lit _ => 1
  | .nil => 1
  | .ptr d => uptoBulk d + 1
  | .slice elems spare => uptoBulkAll elems + uptoBulkAll spare + 1
  | .agg parts => uptoBulkAll parts + 1
  | .iface _ d => uptoBulk d + 1
  | .map entries => uptoBulkEntries entries + 1
  | .held _ => 1
def uptoBulkAll {H : Type} : List (DataW H) → Nat
  | [] => 0
  | d :: r => uptoBulk d + uptoBulkAll r
def uptoBulkEntries {H : Type} : List (Lit × DataW H) → Nat
  | [] => 0
  | x :: r => uptoBulkEntry x + uptoBulkEntries r
def uptoBulkEntry {H : Type} : Lit × DataW H → Nat
  | (.string bytes, d) => bytes.length + uptoBulk d + 1
  | (_, d) => uptoBulk d + 1
 end
def uptoSmall : (H : Type) → List (DataW H) → Bool := fun _ ds => decide (uptoBulkAll ds ≤ 1048576)
def OpenSpec.upto (s : _root_.Go.ChangeSpec) : _root_.Go.OpenSpec := { _root_.Go.OpenSpec.ofChange s with cond := some uptoSmall }

/-- 'zoetropelaw05.HueLists', WHERE WHAT IT READS IS OF BULK AT MOST 1048576: true; the input reads as it did. -/
def hueListsUptoRow : OpenClaim := { program := "ytkbhnomgkmeojaa", sum := "4efd6d631683c71fd43cdc4f9b07887cc3d319c63bcdc2018bb03f454ff7732c", func := "zoetrope/zoetropelaw05.HueLists", spec := "hueLists", unfollowed := true, recurses := true, apart := false, narrowed := true }
def HueListsUptoSaid : Prop := hueListsUptoRow.holds Try.pinned (OpenSpec.upto hueListsSpec)

/-- 'zoetropelaw39.GradeCurves', WHERE WHAT IT READS IS OF BULK AT MOST 1048576: true; the input reads as it did. -/
def gradeCurvesUptoRow : OpenClaim := { program := "ytkbhnomgkmeojaa", sum := "4efd6d631683c71fd43cdc4f9b07887cc3d319c63bcdc2018bb03f454ff7732c", func := "zoetrope/zoetropelaw39.GradeCurves", spec := "gradeCurves", apart := false, narrowed := true }
def GradeCurvesUptoSaid : Prop := gradeCurvesUptoRow.holds Try.pinned (OpenSpec.upto gradeCurvesSpec)

/-- 'zoetropelaw39.GradeRises', WHERE WHAT IT READS IS OF BULK AT MOST 1048576: true; the input reads as it did. -/
def gradeRisesUptoRow : OpenClaim := { program := "ytkbhnomgkmeojaa", sum := "4efd6d631683c71fd43cdc4f9b07887cc3d319c63bcdc2018bb03f454ff7732c", func := "zoetrope/zoetropelaw39.GradeRises", spec := "gradeRises", apart := false, narrowed := true }
def GradeRisesUptoSaid : Prop := gradeRisesUptoRow.holds Try.pinned (OpenSpec.upto gradeRisesSpec)

/-- 'zoetropelaw39.GradeTables', WHERE WHAT IT READS IS OF BULK AT MOST 1048576: true; the input reads as it did. -/
def gradeTablesUptoRow : OpenClaim := { program := "ytkbhnomgkmeojaa", sum := "4efd6d631683c71fd43cdc4f9b07887cc3d319c63bcdc2018bb03f454ff7732c", func := "zoetrope/zoetropelaw39.GradeTables", spec := "gradeTables", apart := false, narrowed := true }
def GradeTablesUptoSaid : Prop := gradeTablesUptoRow.holds Try.pinned (OpenSpec.upto gradeTablesSpec)

/-- 'zoetropelaw39.GradeSteps', WHERE WHAT IT READS IS OF BULK AT MOST 1048576: true; the input reads as it did. -/
def gradeStepsUptoRow : OpenClaim := { program := "ytkbhnomgkmeojaa", sum := "4efd6d631683c71fd43cdc4f9b07887cc3d319c63bcdc2018bb03f454ff7732c", func := "zoetrope/zoetropelaw39.GradeSteps", spec := "gradeSteps", unfollowed := true, recurses := true, apart := false, narrowed := true }
def GradeStepsUptoSaid : Prop := gradeStepsUptoRow.holds Try.pinned (OpenSpec.upto gradeStepsSpec)

/-- 'zoetropelaw19.WarpBetween', WHERE WHAT IT READS IS OF BULK AT MOST 1048576: true; the input reads as it did. -/
def warpBetweenUptoRow : OpenClaim := { program := "ytkbhnomgkmeojaa", sum := "4efd6d631683c71fd43cdc4f9b07887cc3d319c63bcdc2018bb03f454ff7732c", func := "zoetrope/zoetropelaw19.WarpBetween", spec := "warpBetween", unfollowed := true, recurses := true, apart := false, narrowed := true }
def WarpBetweenUptoSaid : Prop := warpBetweenUptoRow.holds Try.pinned (OpenSpec.upto warpBetweenSpec)

/-- 'zoetropelaw19.WarpBlends', WHERE WHAT IT READS IS OF BULK AT MOST 1048576: true; the input reads as it did. -/
def warpBlendsUptoRow : OpenClaim := { program := "ytkbhnomgkmeojaa", sum := "4efd6d631683c71fd43cdc4f9b07887cc3d319c63bcdc2018bb03f454ff7732c", func := "zoetrope/zoetropelaw19.WarpBlends", spec := "warpBlends", unfollowed := true, recurses := true, apart := false, narrowed := true }
def WarpBlendsUptoSaid : Prop := warpBlendsUptoRow.holds Try.pinned (OpenSpec.upto warpBlendsSpec)

/-- 'zoetropelaw04.DiceGoes', WHERE WHAT IT READS IS OF BULK AT MOST 1048576: true; the input reads as it did. -/
def diceGoesUptoRow : OpenClaim := { program := "ytkbhnomgkmeojaa", sum := "4efd6d631683c71fd43cdc4f9b07887cc3d319c63bcdc2018bb03f454ff7732c", func := "zoetrope/zoetropelaw04.DiceGoes", spec := "diceGoes", apart := false, narrowed := true }
def DiceGoesUptoSaid : Prop := diceGoesUptoRow.holds Try.pinned (OpenSpec.upto diceGoesSpec)

/-- 'zoetropelaw29.PackPresses', WHERE WHAT IT READS IS OF BULK AT MOST 1048576: true; the input reads as it did. -/
def packPressesUptoRow : OpenClaim := { program := "ytkbhnomgkmeojaa", sum := "4efd6d631683c71fd43cdc4f9b07887cc3d319c63bcdc2018bb03f454ff7732c", func := "zoetrope/zoetropelaw29.PackPresses", spec := "packPresses", apart := false, narrowed := true }
def PackPressesUptoSaid : Prop := packPressesUptoRow.holds Try.pinned (OpenSpec.upto packPressesSpec)

/-- 'zoetropelaw29.PackWorst', WHERE WHAT IT READS IS OF BULK AT MOST 1048576: true; the input reads as it did. -/
def packWorstUptoRow : OpenClaim := { program := "ytkbhnomgkmeojaa", sum := "4efd6d631683c71fd43cdc4f9b07887cc3d319c63bcdc2018bb03f454ff7732c", func := "zoetrope/zoetropelaw29.PackWorst", spec := "packWorst", apart := false, narrowed := true }
def PackWorstUptoSaid : Prop := packWorstUptoRow.holds Try.pinned (OpenSpec.upto packWorstSpec)

/-- 'zoetropelaw29.PackBack', WHERE WHAT IT READS IS OF BULK AT MOST 1048576: true; the input reads as it did. -/
def packBackUptoRow : OpenClaim := { program := "ytkbhnomgkmeojaa", sum := "4efd6d631683c71fd43cdc4f9b07887cc3d319c63bcdc2018bb03f454ff7732c", func := "zoetrope/zoetropelaw29.PackBack", spec := "packBack", apart := false, narrowed := true }
def PackBackUptoSaid : Prop := packBackUptoRow.holds Try.pinned (OpenSpec.upto packBackSpec)

/-- 'zoetropelaw29.PackSpreads', WHERE WHAT IT READS IS OF BULK AT MOST 1048576: true; the input reads as it did. -/
def packSpreadsUptoRow : OpenClaim := { program := "ytkbhnomgkmeojaa", sum := "4efd6d631683c71fd43cdc4f9b07887cc3d319c63bcdc2018bb03f454ff7732c", func := "zoetrope/zoetropelaw29.PackSpreads", spec := "packSpreads", apart := false, narrowed := true }
def PackSpreadsUptoSaid : Prop := packSpreadsUptoRow.holds Try.pinned (OpenSpec.upto packSpreadsSpec)

end Rows
end Go.Proofs.Ytkbhnomgkmeojaa
