/-
  No cell of these rows narrows 'for every input' (looked for: loops, veiled, ifaces, maps, wideKeys, modest, calm, conditions, laid).
  DERIVED. THE GIVEN ROWS OF THIS SEAT. 12 by the template 'for every input the law returns true; each argument reads behind the call as it read before'; 0 by the template 'total and deterministic' (their statements: YtaikocplcblnkabTotals.lean).
  GIVEN WITH THE SEED: the statements are not yours to turn. If you find one false, say at which input.
  Laid BY PROGRAM, IN A SANDBOX (cutbox-rows.mjs): the forced cells as the released guide's own fill.sh prints them over the translation 35f410598d14104e… (all of the seat's roots in one cut). By AI agents, Wed Nov 11 2026. No macro, syntax, notation, axiom, sorry.
-/
import Derived.Test.YtaikocplcblnkabChecked
import GoSem.Claim
import GoSem.ClaimJoined
import GoSem.ClaimMapViews
import Derived.JoinedTies
import Derived.KernelRfl
namespace Go.Proofs.Ytaikocplcblnkab
/- THE CELL 'sum', in the pinned program and in every row, IS THE sha256 OF THE DUMP (.gsa) THAT YtaikocplcblnkabProg.lean LOADS. Nothing in Lean hashes anything: it is a label: what it is worth is what the hold of that sum in a sandbox is worth. -/
noncomputable def Try.pinned : Pinned := { name := "ytaikocplcblnkab", sum := "35f410598d14104e403199289c6d437256e33d798c66e603aa7b7eb3c5bfae0d", checked := Try.checked }
namespace Rows
def none {H : Type} : Left H := { results := [], args := [] }

/-- 'zoetropelaw05.HueSums': WHATEVER THE INPUT: true; the input reads as it did. -/
def hueSumsSpec : ChangeSpec := { name := "hueSums", fn := fun _ => fun
  | [d1, d2, d3] => { results := [.lit (.bool true)], args := [d1, d2, d3] }
  | _ => none }
def hueSumsRow : OpenClaim := { program := "ytaikocplcblnkab", sum := "35f410598d14104e403199289c6d437256e33d798c66e603aa7b7eb3c5bfae0d", func := "zoetrope/zoetropelaw05.HueSums", spec := "hueSums", unfollowed := true, recurses := true, apart := false }
def HueSumsSaid : Prop := hueSumsRow.holds Try.pinned (OpenSpec.ofChange hueSumsSpec)

/-- ITS FALSE NEIGHBOUR: 'it returns false'. Refute it at one input. -/
def hueSumsWrong : ChangeSpec := { name := "hueSums", fn := fun _ => fun
  | [d1, d2, d3] => { results := [.lit (.bool false)], args := [d1, d2, d3] }
  | _ => none }
def HueSumsWrongFalsely : Prop := hueSumsRow.holds Try.pinned (OpenSpec.ofChange hueSumsWrong)

/-- 'zoetropelaw05.HueLists': WHATEVER THE INPUT: true; the input reads as it did. -/
def hueListsSpec : ChangeSpec := { name := "hueLists", fn := fun _ => fun
  | [d1, d2] => { results := [.lit (.bool true)], args := [d1, d2] }
  | _ => none }
def hueListsRow : OpenClaim := { program := "ytaikocplcblnkab", sum := "35f410598d14104e403199289c6d437256e33d798c66e603aa7b7eb3c5bfae0d", func := "zoetrope/zoetropelaw05.HueLists", spec := "hueLists", unfollowed := true, recurses := true, apart := false }
def HueListsSaid : Prop := hueListsRow.holds Try.pinned (OpenSpec.ofChange hueListsSpec)

/-- ITS FALSE NEIGHBOUR: 'it returns false'. Refute it at one input. -/
def hueListsWrong : ChangeSpec := { name := "hueLists", fn := fun _ => fun
  | [d1, d2] => { results := [.lit (.bool false)], args := [d1, d2] }
  | _ => none }
def HueListsWrongFalsely : Prop := hueListsRow.holds Try.pinned (OpenSpec.ofChange hueListsWrong)

/-- 'zoetropelaw11.BoxSums': WHATEVER THE INPUT: true; the input reads as it did. -/
def boxSumsSpec : ChangeSpec := { name := "boxSums", fn := fun _ => fun
  | [d1, d2, d3] => { results := [.lit (.bool true)], args := [d1, d2, d3] }
  | _ => none }
def boxSumsRow : OpenClaim := { program := "ytaikocplcblnkab", sum := "35f410598d14104e403199289c6d437256e33d798c66e603aa7b7eb3c5bfae0d", func := "zoetrope/zoetropelaw11.BoxSums", spec := "boxSums", unfollowed := true, recurses := true, apart := false }
def BoxSumsSaid : Prop := boxSumsRow.holds Try.pinned (OpenSpec.ofChange boxSumsSpec)

/-- ITS FALSE NEIGHBOUR: 'it returns false'. Refute it at one input. -/
def boxSumsWrong : ChangeSpec := { name := "boxSums", fn := fun _ => fun
  | [d1, d2, d3] => { results := [.lit (.bool false)], args := [d1, d2, d3] }
  | _ => none }
def BoxSumsWrongFalsely : Prop := boxSumsRow.holds Try.pinned (OpenSpec.ofChange boxSumsWrong)

/-- 'zoetropelaw11.BoxHolds': WHATEVER THE INPUT: true; the input reads as it did. -/
def boxHoldsSpec : ChangeSpec := { name := "boxHolds", fn := fun _ => fun
  | [d1, d2] => { results := [.lit (.bool true)], args := [d1, d2] }
  | _ => none }
def boxHoldsRow : OpenClaim := { program := "ytaikocplcblnkab", sum := "35f410598d14104e403199289c6d437256e33d798c66e603aa7b7eb3c5bfae0d", func := "zoetrope/zoetropelaw11.BoxHolds", spec := "boxHolds", unfollowed := true, recurses := true, apart := false }
def BoxHoldsSaid : Prop := boxHoldsRow.holds Try.pinned (OpenSpec.ofChange boxHoldsSpec)

/-- ITS FALSE NEIGHBOUR: 'it returns false'. Refute it at one input. -/
def boxHoldsWrong : ChangeSpec := { name := "boxHolds", fn := fun _ => fun
  | [d1, d2] => { results := [.lit (.bool false)], args := [d1, d2] }
  | _ => none }
def BoxHoldsWrongFalsely : Prop := boxHoldsRow.holds Try.pinned (OpenSpec.ofChange boxHoldsWrong)

/-- 'zoetropelaw11.BoxTells': WHATEVER THE INPUT: true; the input reads as it did. -/
def boxTellsSpec : ChangeSpec := { name := "boxTells", fn := fun _ => fun
  | [d1, d2, d3] => { results := [.lit (.bool true)], args := [d1, d2, d3] }
  | _ => none }
def boxTellsRow : OpenClaim := { program := "ytaikocplcblnkab", sum := "35f410598d14104e403199289c6d437256e33d798c66e603aa7b7eb3c5bfae0d", func := "zoetrope/zoetropelaw11.BoxTells", spec := "boxTells", unfollowed := true, recurses := true, apart := false }
def BoxTellsSaid : Prop := boxTellsRow.holds Try.pinned (OpenSpec.ofChange boxTellsSpec)

/-- ITS FALSE NEIGHBOUR: 'it returns false'. Refute it at one input. -/
def boxTellsWrong : ChangeSpec := { name := "boxTells", fn := fun _ => fun
  | [d1, d2, d3] => { results := [.lit (.bool false)], args := [d1, d2, d3] }
  | _ => none }
def BoxTellsWrongFalsely : Prop := boxTellsRow.holds Try.pinned (OpenSpec.ofChange boxTellsWrong)

/-- 'zoetropelaw11.BoxPairs': WHATEVER THE INPUT: true; the input reads as it did. -/
def boxPairsSpec : ChangeSpec := { name := "boxPairs", fn := fun _ => fun
  | [d1, d2, d3] => { results := [.lit (.bool true)], args := [d1, d2, d3] }
  | _ => none }
def boxPairsRow : OpenClaim := { program := "ytaikocplcblnkab", sum := "35f410598d14104e403199289c6d437256e33d798c66e603aa7b7eb3c5bfae0d", func := "zoetrope/zoetropelaw11.BoxPairs", spec := "boxPairs", unfollowed := true, recurses := true, apart := false }
def BoxPairsSaid : Prop := boxPairsRow.holds Try.pinned (OpenSpec.ofChange boxPairsSpec)

/-- ITS FALSE NEIGHBOUR: 'it returns false'. Refute it at one input. -/
def boxPairsWrong : ChangeSpec := { name := "boxPairs", fn := fun _ => fun
  | [d1, d2, d3] => { results := [.lit (.bool false)], args := [d1, d2, d3] }
  | _ => none }
def BoxPairsWrongFalsely : Prop := boxPairsRow.holds Try.pinned (OpenSpec.ofChange boxPairsWrong)

/-- 'zoetropelaw39.GradeCurves': WHATEVER THE INPUT: true; the input reads as it did. -/
def gradeCurvesSpec : ChangeSpec := { name := "gradeCurves", fn := fun _ => fun
  | [d1, d2] => { results := [.lit (.bool true)], args := [d1, d2] }
  | _ => none }
def gradeCurvesRow : OpenClaim := { program := "ytaikocplcblnkab", sum := "35f410598d14104e403199289c6d437256e33d798c66e603aa7b7eb3c5bfae0d", func := "zoetrope/zoetropelaw39.GradeCurves", spec := "gradeCurves", apart := false }
def GradeCurvesSaid : Prop := gradeCurvesRow.holds Try.pinned (OpenSpec.ofChange gradeCurvesSpec)

/-- ITS FALSE NEIGHBOUR: 'it returns false'. Refute it at one input. -/
def gradeCurvesWrong : ChangeSpec := { name := "gradeCurves", fn := fun _ => fun
  | [d1, d2] => { results := [.lit (.bool false)], args := [d1, d2] }
  | _ => none }
def GradeCurvesWrongFalsely : Prop := gradeCurvesRow.holds Try.pinned (OpenSpec.ofChange gradeCurvesWrong)

/-- 'zoetropelaw39.GradeRises': WHATEVER THE INPUT: true; the input reads as it did. -/
def gradeRisesSpec : ChangeSpec := { name := "gradeRises", fn := fun _ => fun
  | [d1, d2, d3, d4, d5] => { results := [.lit (.bool true)], args := [d1, d2, d3, d4, d5] }
  | _ => none }
def gradeRisesRow : OpenClaim := { program := "ytaikocplcblnkab", sum := "35f410598d14104e403199289c6d437256e33d798c66e603aa7b7eb3c5bfae0d", func := "zoetrope/zoetropelaw39.GradeRises", spec := "gradeRises", apart := false }
def GradeRisesSaid : Prop := gradeRisesRow.holds Try.pinned (OpenSpec.ofChange gradeRisesSpec)

/-- ITS FALSE NEIGHBOUR: 'it returns false'. Refute it at one input. -/
def gradeRisesWrong : ChangeSpec := { name := "gradeRises", fn := fun _ => fun
  | [d1, d2, d3, d4, d5] => { results := [.lit (.bool false)], args := [d1, d2, d3, d4, d5] }
  | _ => none }
def GradeRisesWrongFalsely : Prop := gradeRisesRow.holds Try.pinned (OpenSpec.ofChange gradeRisesWrong)

/-- 'zoetropelaw16.CoatLives': WHATEVER THE INPUT: true; the input reads as it did. -/
def coatLivesSpec : ChangeSpec := { name := "coatLives", fn := fun _ => fun
  | [d1, d2] => { results := [.lit (.bool true)], args := [d1, d2] }
  | _ => none }
def coatLivesRow : OpenClaim := { program := "ytaikocplcblnkab", sum := "35f410598d14104e403199289c6d437256e33d798c66e603aa7b7eb3c5bfae0d", func := "zoetrope/zoetropelaw16.CoatLives", spec := "coatLives", unfollowed := true, recurses := true, apart := false }
def CoatLivesSaid : Prop := coatLivesRow.holds Try.pinned (OpenSpec.ofChange coatLivesSpec)

/-- ITS FALSE NEIGHBOUR: 'it returns false'. Refute it at one input. -/
def coatLivesWrong : ChangeSpec := { name := "coatLives", fn := fun _ => fun
  | [d1, d2] => { results := [.lit (.bool false)], args := [d1, d2] }
  | _ => none }
def CoatLivesWrongFalsely : Prop := coatLivesRow.holds Try.pinned (OpenSpec.ofChange coatLivesWrong)

/-- 'zoetropelaw16.CoatBounces': WHATEVER THE INPUT: true; the input reads as it did. -/
def coatBouncesSpec : ChangeSpec := { name := "coatBounces", fn := fun _ => fun
  | [d1, d2, d3, d4, d5] => { results := [.lit (.bool true)], args := [d1, d2, d3, d4, d5] }
  | _ => none }
def coatBouncesRow : OpenClaim := { program := "ytaikocplcblnkab", sum := "35f410598d14104e403199289c6d437256e33d798c66e603aa7b7eb3c5bfae0d", func := "zoetrope/zoetropelaw16.CoatBounces", spec := "coatBounces", unfollowed := true, recurses := true, apart := false }
def CoatBouncesSaid : Prop := coatBouncesRow.holds Try.pinned (OpenSpec.ofChange coatBouncesSpec)

/-- ITS FALSE NEIGHBOUR: 'it returns false'. Refute it at one input. -/
def coatBouncesWrong : ChangeSpec := { name := "coatBounces", fn := fun _ => fun
  | [d1, d2, d3, d4, d5] => { results := [.lit (.bool false)], args := [d1, d2, d3, d4, d5] }
  | _ => none }
def CoatBouncesWrongFalsely : Prop := coatBouncesRow.holds Try.pinned (OpenSpec.ofChange coatBouncesWrong)

/-- 'zoetropelaw19.WarpBetween': WHATEVER THE INPUT: true; the input reads as it did. -/
def warpBetweenSpec : ChangeSpec := { name := "warpBetween", fn := fun _ => fun
  | [d1, d2] => { results := [.lit (.bool true)], args := [d1, d2] }
  | _ => none }
def warpBetweenRow : OpenClaim := { program := "ytaikocplcblnkab", sum := "35f410598d14104e403199289c6d437256e33d798c66e603aa7b7eb3c5bfae0d", func := "zoetrope/zoetropelaw19.WarpBetween", spec := "warpBetween", unfollowed := true, recurses := true, apart := false }
def WarpBetweenSaid : Prop := warpBetweenRow.holds Try.pinned (OpenSpec.ofChange warpBetweenSpec)

/-- ITS FALSE NEIGHBOUR: 'it returns false'. Refute it at one input. -/
def warpBetweenWrong : ChangeSpec := { name := "warpBetween", fn := fun _ => fun
  | [d1, d2] => { results := [.lit (.bool false)], args := [d1, d2] }
  | _ => none }
def WarpBetweenWrongFalsely : Prop := warpBetweenRow.holds Try.pinned (OpenSpec.ofChange warpBetweenWrong)

/-- 'zoetropelaw19.WarpBlends': WHATEVER THE INPUT: true; the input reads as it did. -/
def warpBlendsSpec : ChangeSpec := { name := "warpBlends", fn := fun _ => fun
  | [d1, d2, d3] => { results := [.lit (.bool true)], args := [d1, d2, d3] }
  | _ => none }
def warpBlendsRow : OpenClaim := { program := "ytaikocplcblnkab", sum := "35f410598d14104e403199289c6d437256e33d798c66e603aa7b7eb3c5bfae0d", func := "zoetrope/zoetropelaw19.WarpBlends", spec := "warpBlends", unfollowed := true, recurses := true, apart := false }
def WarpBlendsSaid : Prop := warpBlendsRow.holds Try.pinned (OpenSpec.ofChange warpBlendsSpec)

/-- ITS FALSE NEIGHBOUR: 'it returns false'. Refute it at one input. -/
def warpBlendsWrong : ChangeSpec := { name := "warpBlends", fn := fun _ => fun
  | [d1, d2, d3] => { results := [.lit (.bool false)], args := [d1, d2, d3] }
  | _ => none }
def WarpBlendsWrongFalsely : Prop := warpBlendsRow.holds Try.pinned (OpenSpec.ofChange warpBlendsWrong)

/- THE SECOND FORM. 'bulk': how many values and letters a reading holds, each counted each time it is reached (what is shared counts as often as it is met; a slice's spare places count too). A statement '..UptoSaid' is the law's where the arguments, and the package variables that the reading takes, are together of bulk at most 1048576: NARROWER than '..Said'. Prove '..Said' where nothing that the law and all that it calls make is longer than what came in: it says more and counts as full. Else prove '..UptoSaid'. A law counts once. -/
mutual
def uptoBulk {H : Type} : DataW H → Nat
  | .lit (.string bytes) => bytes.length + 1
  | .lit _ => 1
  | .nil => 1
  | .ptr d => uptoBulk d + 1
  | .slice elems spare => uptoBulkAll elems + uptoBulkAll spare + 1
  | .agg parts => uptoBulkAll parts + 1
  | .iface _ d => uptoBulk d + 1
  | .map entries => uptoBulkEntries entries + 1
  | .held _ => 1
def uptoBulkAll {H : Type} : List (DataW H) → Nat
  | [] => 0
  | d :: r => uptoBulk d + uptoBulkAll r
def uptoBulkEntries {H : Type} : List (Lit × DataW H) → Nat
  | [] => 0
  | x :: r => uptoBulkEntry x + uptoBulkEntries r
def uptoBulkEntry {H : Type} : Lit × DataW H → Nat
  | (.string bytes, d) => bytes.length + uptoBulk d + 1
  | (_, d) => uptoBulk d + 1
 end
def uptoSmall : (H : Type) → List (DataW H) → Bool := fun _ ds => decide (uptoBulkAll ds ≤ 1048576)
def OpenSpec.upto (s : _root_.Go.ChangeSpec) : _root_.Go.OpenSpec := { _root_.Go.OpenSpec.ofChange s with cond := some uptoSmall }

/-- 'zoetropelaw05.HueSums', WHERE WHAT IT READS IS OF BULK AT MOST 1048576: true; the input reads as it did. -/
def hueSumsUptoRow : OpenClaim := { program := "ytaikocplcblnkab", sum := "35f410598d14104e403199289c6d437256e33d798c66e603aa7b7eb3c5bfae0d", func := "zoetrope/zoetropelaw05.HueSums", spec := "hueSums", unfollowed := true, recurses := true, apart := false, narrowed := true }
def HueSumsUptoSaid : Prop := hueSumsUptoRow.holds Try.pinned (OpenSpec.upto hueSumsSpec)

/-- 'zoetropelaw05.HueLists', WHERE WHAT IT READS IS OF BULK AT MOST 1048576: true; the input reads as it did. -/
def hueListsUptoRow : OpenClaim := { program := "ytaikocplcblnkab", sum := "35f410598d14104e403199289c6d437256e33d798c66e603aa7b7eb3c5bfae0d", func := "zoetrope/zoetropelaw05.HueLists", spec := "hueLists", unfollowed := true, recurses := true, apart := false, narrowed := true }
def HueListsUptoSaid : Prop := hueListsUptoRow.holds Try.pinned (OpenSpec.upto hueListsSpec)

/-- 'zoetropelaw11.BoxSums', WHERE WHAT IT READS IS OF BULK AT MOST 1048576: true; the input reads as it did. -/
def boxSumsUptoRow : OpenClaim := { program := "ytaikocplcblnkab", sum := "35f410598d14104e403199289c6d437256e33d798c66e603aa7b7eb3c5bfae0d", func := "zoetrope/zoetropelaw11.BoxSums", spec := "boxSums", unfollowed := true, recurses := true, apart := false, narrowed := true }
def BoxSumsUptoSaid : Prop := boxSumsUptoRow.holds Try.pinned (OpenSpec.upto boxSumsSpec)

/-- 'zoetropelaw11.BoxHolds', WHERE WHAT IT READS IS OF BULK AT MOST 1048576: true; the input reads as it did. -/
def boxHoldsUptoRow : OpenClaim := { program := "ytaikocplcblnkab", sum := "35f410598d14104e403199289c6d437256e33d798c66e603aa7b7eb3c5bfae0d", func := "zoetrope/zoetropelaw11.BoxHolds", spec := "boxHolds", unfollowed := true, recurses := true, apart := false, narrowed := true }
def BoxHoldsUptoSaid : Prop := boxHoldsUptoRow.holds Try.pinned (OpenSpec.upto boxHoldsSpec)

/-- 'zoetropelaw11.BoxTells', WHERE WHAT IT READS IS OF BULK AT MOST 1048576: true; the input reads as it did. -/
def boxTellsUptoRow : OpenClaim := { program := "ytaikocplcblnkab", sum := "35f410598d14104e403199289c6d437256e33d798c66e603aa7b7eb3c5bfae0d", func := "zoetrope/zoetropelaw11.BoxTells", spec := "boxTells", unfollowed := true, recurses := true, apart := false, narrowed := true }
def BoxTellsUptoSaid : Prop := boxTellsUptoRow.holds Try.pinned (OpenSpec.upto boxTellsSpec)

/-- 'zoetropelaw11.BoxPairs', WHERE WHAT IT READS IS OF BULK AT MOST 1048576: true; the input reads as it did. -/
def boxPairsUptoRow : OpenClaim := { program := "ytaikocplcblnkab", sum := "35f410598d14104e403199289c6d437256e33d798c66e603aa7b7eb3c5bfae0d", func := "zoetrope/zoetropelaw11.BoxPairs", spec := "boxPairs", unfollowed := true, recurses := true, apart := false, narrowed := true }
def BoxPairsUptoSaid : Prop := boxPairsUptoRow.holds Try.pinned (OpenSpec.upto boxPairsSpec)

/-- 'zoetropelaw39.GradeCurves', WHERE WHAT IT READS IS OF BULK AT MOST 1048576: true; the input reads as it did. -/
def gradeCurvesUptoRow : OpenClaim := { program := "ytaikocplcblnkab", sum := "35f410598d14104e403199289c6d437256e33d798c66e603aa7b7eb3c5bfae0d", func := "zoetrope/zoetropelaw39.GradeCurves", spec := "gradeCurves", apart := false, narrowed := true }
def GradeCurvesUptoSaid : Prop := gradeCurvesUptoRow.holds Try.pinned (OpenSpec.upto gradeCurvesSpec)

/-- 'zoetropelaw39.GradeRises', WHERE WHAT IT READS IS OF BULK AT MOST 1048576: true; the input reads as it did. -/
def gradeRisesUptoRow : OpenClaim := { program := "ytaikocplcblnkab", sum := "35f410598d14104e403199289c6d437256e33d798c66e603aa7b7eb3c5bfae0d", func := "zoetrope/zoetropelaw39.GradeRises", spec := "gradeRises", apart := false, narrowed := true }
def GradeRisesUptoSaid : Prop := gradeRisesUptoRow.holds Try.pinned (OpenSpec.upto gradeRisesSpec)

/-- 'zoetropelaw16.CoatLives', WHERE WHAT IT READS IS OF BULK AT MOST 1048576: true; the input reads as it did. -/
def coatLivesUptoRow : OpenClaim := { program := "ytaikocplcblnkab", sum := "35f410598d14104e403199289c6d437256e33d798c66e603aa7b7eb3c5bfae0d", func := "zoetrope/zoetropelaw16.CoatLives", spec := "coatLives", unfollowed := true, recurses := true, apart := false, narrowed := true }
def CoatLivesUptoSaid : Prop := coatLivesUptoRow.holds Try.pinned (OpenSpec.upto coatLivesSpec)

/-- 'zoetropelaw16.CoatBounces', WHERE WHAT IT READS IS OF BULK AT MOST 1048576: true; the input reads as it did. -/
def coatBouncesUptoRow : OpenClaim := { program := "ytaikocplcblnkab", sum := "35f410598d14104e403199289c6d437256e33d798c66e603aa7b7eb3c5bfae0d", func := "zoetrope/zoetropelaw16.CoatBounces", spec := "coatBounces", unfollowed := true, recurses := true, apart := false, narrowed := true }
def CoatBouncesUptoSaid : Prop := coatBouncesUptoRow.holds Try.pinned (OpenSpec.upto coatBouncesSpec)

/-- 'zoetropelaw19.WarpBetween', WHERE WHAT IT READS IS OF BULK AT MOST 1048576: true; the input reads as it did. -/
def warpBetweenUptoRow : OpenClaim := { program := "ytaikocplcblnkab", sum := "35f410598d14104e403199289c6d437256e33d798c66e603aa7b7eb3c5bfae0d", func := "zoetrope/zoetropelaw19.WarpBetween", spec := "warpBetween", unfollowed := true, recurses := true, apart := false, narrowed := true }
def WarpBetweenUptoSaid : Prop := warpBetweenUptoRow.holds Try.pinned (OpenSpec.upto warpBetweenSpec)

/-- 'zoetropelaw19.WarpBlends', WHERE WHAT IT READS IS OF BULK AT MOST 1048576: true; the input reads as it did. -/
def warpBlendsUptoRow : OpenClaim := { program := "ytaikocplcblnkab", sum := "35f410598d14104e403199289c6d437256e33d798c66e603aa7b7eb3c5bfae0d", func := "zoetrope/zoetropelaw19.WarpBlends", spec := "warpBlends", unfollowed := true, recurses := true, apart := false, narrowed := true }
def WarpBlendsUptoSaid : Prop := warpBlendsUptoRow.holds Try.pinned (OpenSpec.upto warpBlendsSpec)

end Rows
end Go.Proofs.Ytaikocplcblnkab
