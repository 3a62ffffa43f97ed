/-
  No cell of these rows narrows 'for every input' (looked for: loops, veiled, ifaces, maps, wideKeys, modest, calm, conditions, laid).
  DERIVED. THE GIVEN ROWS OF THIS SEAT. 3 by the template 'for every input the law returns true; each argument reads behind the call as it read before'; 0 by the template 'total and deterministic' (their statements: YthgneojhhocflaaTotals.lean).
  GIVEN WITH THE SEED: the statements are not yours to turn. If you find one false, say at which input.
  Laid BY PROGRAM, IN A SANDBOX (cutbox-rows.mjs): the forced cells as the released guide's own fill.sh prints them over the translation 39dcfd5de7a0d704… (all of the seat's roots in one cut). By AI agents, Wed Nov 11 2026. No macro, syntax, notation, axiom, sorry.
-/
import Derived.Test.YthgneojhhocflaaChecked
import GoSem.Claim
import GoSem.ClaimJoined
import GoSem.ClaimMapViews
import Derived.JoinedTies
import Derived.KernelRfl
namespace Go.Proofs.Ythgneojhhocflaa
/- THE CELL 'sum', in the pinned program and in every row, IS THE sha256 OF THE DUMP (.gsa) THAT YthgneojhhocflaaProg.lean LOADS. Nothing in Lean hashes anything: it is a label: what it is worth is what the hold of that sum in a sandbox is worth. -/
noncomputable def Try.pinned : Pinned := { name := "ythgneojhhocflaa", sum := "39dcfd5de7a0d704ccc602ce7b2a552869713ccbb098bf502dd7400ccbd9b392", checked := Try.checked }
namespace Rows
def none {H : Type} : Left H := { results := [], args := [] }

/-- 'zoetropelaw08.SceneChecks': WHATEVER THE INPUT: true; the input reads as it did. -/
def sceneChecksSpec : ChangeSpec := { name := "sceneChecks", fn := fun _ => fun
  | [d] => { results := [.lit (.bool true)], args := [d] }
  | _ => none }
def sceneChecksRow : OpenClaim := { program := "ythgneojhhocflaa", sum := "39dcfd5de7a0d704ccc602ce7b2a552869713ccbb098bf502dd7400ccbd9b392", func := "zoetrope/zoetropelaw08.SceneChecks", spec := "sceneChecks", unfollowed := true, recurses := true, apart := false }
def SceneChecksSaid : Prop := sceneChecksRow.holds Try.pinned (OpenSpec.ofChange sceneChecksSpec)

/-- ITS FALSE NEIGHBOUR: 'it returns false'. Refute it at one input. -/
def sceneChecksWrong : ChangeSpec := { name := "sceneChecks", fn := fun _ => fun
  | [d] => { results := [.lit (.bool false)], args := [d] }
  | _ => none }
def SceneChecksWrongFalsely : Prop := sceneChecksRow.holds Try.pinned (OpenSpec.ofChange sceneChecksWrong)

/-- 'zoetropelaw08.SceneLess': WHATEVER THE INPUT: true; the input reads as it did. -/
def sceneLessSpec : ChangeSpec := { name := "sceneLess", fn := fun _ => fun
  | [d] => { results := [.lit (.bool true)], args := [d] }
  | _ => none }
def sceneLessRow : OpenClaim := { program := "ythgneojhhocflaa", sum := "39dcfd5de7a0d704ccc602ce7b2a552869713ccbb098bf502dd7400ccbd9b392", func := "zoetrope/zoetropelaw08.SceneLess", spec := "sceneLess", unfollowed := true, recurses := true, apart := false }
def SceneLessSaid : Prop := sceneLessRow.holds Try.pinned (OpenSpec.ofChange sceneLessSpec)

/-- ITS FALSE NEIGHBOUR: 'it returns false'. Refute it at one input. -/
def sceneLessWrong : ChangeSpec := { name := "sceneLess", fn := fun _ => fun
  | [d] => { results := [.lit (.bool false)], args := [d] }
  | _ => none }
def SceneLessWrongFalsely : Prop := sceneLessRow.holds Try.pinned (OpenSpec.ofChange sceneLessWrong)

/-- 'zoetropelaw08.SceneTells': WHATEVER THE INPUT: true; the input reads as it did. -/
def sceneTellsSpec : ChangeSpec := { name := "sceneTells", fn := fun _ => fun
  | [d1, d2] => { results := [.lit (.bool true)], args := [d1, d2] }
  | _ => none }
def sceneTellsRow : OpenClaim := { program := "ythgneojhhocflaa", sum := "39dcfd5de7a0d704ccc602ce7b2a552869713ccbb098bf502dd7400ccbd9b392", func := "zoetrope/zoetropelaw08.SceneTells", spec := "sceneTells", unfollowed := true, recurses := true, apart := false }
def SceneTellsSaid : Prop := sceneTellsRow.holds Try.pinned (OpenSpec.ofChange sceneTellsSpec)

/-- ITS FALSE NEIGHBOUR: 'it returns false'. Refute it at one input. -/
def sceneTellsWrong : ChangeSpec := { name := "sceneTells", fn := fun _ => fun
  | [d1, d2] => { results := [.lit (.bool false)], args := [d1, d2] }
  | _ => none }
def SceneTellsWrongFalsely : Prop := sceneTellsRow.holds Try.pinned (OpenSpec.ofChange sceneTellsWrong)

/- THE SECOND FORM. 'bulk': how many values and letters a reading holds, each counted each time it is reached (what is shared counts as often as it is met; a slice's spare places count too). A statement '..UptoSaid' is the law's where the arguments, and the package variables that the reading takes, are together of bulk at most 1048576: NARROWER than '..Said'. Prove '..Said' where nothing that the law and all that it calls make is longer than what came in: it says more and counts as full. Else prove '..UptoSaid'. A law counts once. -/
mutual
def uptoBulk {H : Type} : DataW H → Nat
  | .lit (.string bytes) => bytes.length + 1
  | .lit _ => 1
  | .nil => 1
  | .ptr d => uptoBulk d + 1
  | .slice elems spare => uptoBulkAll elems + uptoBulkAll spare + 1
  | .agg parts => uptoBulkAll parts + 1
  | .iface _ d => uptoBulk d + 1
  | .map entries => uptoBulkEntries entries + 1
  | .held _ => 1
def uptoBulkAll {H : Type} : List (DataW H) → Nat
  | [] => 0
  | d :: r => uptoBulk d + uptoBulkAll r
def uptoBulkEntries {H : Type} : List (Lit × DataW H) → Nat
  | [] => 0
  | x :: r => uptoBulkEntry x + uptoBulkEntries r
def uptoBulkEntry {H : Type} : Lit × DataW H → Nat
  | (.string bytes, d) => bytes.length + uptoBulk d + 1
  | (_, d) => uptoBulk d + 1
 end
def uptoSmall : (H : Type) → List (DataW H) → Bool := fun _ ds => decide (uptoBulkAll ds ≤ 1048576)
def OpenSpec.upto (s : _root_.Go.ChangeSpec) : _root_.Go.OpenSpec := { _root_.Go.OpenSpec.ofChange s with cond := some uptoSmall }

/-- 'zoetropelaw08.SceneChecks', WHERE WHAT IT READS IS OF BULK AT MOST 1048576: true; the input reads as it did. -/
def sceneChecksUptoRow : OpenClaim := { program := "ythgneojhhocflaa", sum := "39dcfd5de7a0d704ccc602ce7b2a552869713ccbb098bf502dd7400ccbd9b392", func := "zoetrope/zoetropelaw08.SceneChecks", spec := "sceneChecks", unfollowed := true, recurses := true, apart := false, narrowed := true }
def SceneChecksUptoSaid : Prop := sceneChecksUptoRow.holds Try.pinned (OpenSpec.upto sceneChecksSpec)

/-- 'zoetropelaw08.SceneLess', WHERE WHAT IT READS IS OF BULK AT MOST 1048576: true; the input reads as it did. -/
def sceneLessUptoRow : OpenClaim := { program := "ythgneojhhocflaa", sum := "39dcfd5de7a0d704ccc602ce7b2a552869713ccbb098bf502dd7400ccbd9b392", func := "zoetrope/zoetropelaw08.SceneLess", spec := "sceneLess", unfollowed := true, recurses := true, apart := false, narrowed := true }
def SceneLessUptoSaid : Prop := sceneLessUptoRow.holds Try.pinned (OpenSpec.upto sceneLessSpec)

/-- 'zoetropelaw08.SceneTells', WHERE WHAT IT READS IS OF BULK AT MOST 1048576: true; the input reads as it did. -/
def sceneTellsUptoRow : OpenClaim := { program := "ythgneojhhocflaa", sum := "39dcfd5de7a0d704ccc602ce7b2a552869713ccbb098bf502dd7400ccbd9b392", func := "zoetrope/zoetropelaw08.SceneTells", spec := "sceneTells", unfollowed := true, recurses := true, apart := false, narrowed := true }
def SceneTellsUptoSaid : Prop := sceneTellsUptoRow.holds Try.pinned (OpenSpec.upto sceneTellsSpec)

end Rows
end Go.Proofs.Ythgneojhhocflaa
