/-
  No cell of these rows narrows 'for every input' (looked for: loops, veiled, ifaces, maps, wideKeys, modest, calm, conditions, laid).
  DERIVED. THE GIVEN ROWS OF THIS SEAT. 9 by the template 'for every input the law returns true; each argument reads behind the call as it read before'; 0 by the template 'total and deterministic' (their statements: YtigjlhhglhbbpaaTotals.lean).
  GIVEN WITH THE SEED: the statements are not yours to turn. If you find one false, say at which input.
  Laid BY PROGRAM, IN A SANDBOX (cutbox-rows.mjs): the forced cells as the released guide's own fill.sh prints them over the translation abd2806be3a10a3b… (all of the seat's roots in one cut). By AI agents, Wed Nov 11 2026. No macro, syntax, notation, axiom, sorry.
-/
import Derived.Test.YtigjlhhglhbbpaaChecked
import GoSem.Claim
import GoSem.ClaimJoined
import GoSem.ClaimMapViews
import Derived.JoinedTies
import Derived.KernelRfl
namespace Go.Proofs.Ytigjlhhglhbbpaa
/- THE CELL 'sum', in the pinned program and in every row, IS THE sha256 OF THE DUMP (.gsa) THAT YtigjlhhglhbbpaaProg.lean LOADS. Nothing in Lean hashes anything: it is a label: what it is worth is what the hold of that sum in a sandbox is worth. -/
noncomputable def Try.pinned : Pinned := { name := "ytigjlhhglhbbpaa", sum := "abd2806be3a10a3bf8ca4fae483cb5075ac2793f38633b1b9143ad8314d2281d", checked := Try.checked }
namespace Rows
def none {H : Type} : Left H := { results := [], args := [] }

/-- 'zoetropelaw34.OrbitThrough': WHATEVER THE INPUT: true; the input reads as it did. -/
def orbitThroughSpec : ChangeSpec := { name := "orbitThrough", fn := fun _ => fun
  | [d1, d2, d3, d4] => { results := [.lit (.bool true)], args := [d1, d2, d3, d4] }
  | _ => none }
def orbitThroughRow : OpenClaim := { program := "ytigjlhhglhbbpaa", sum := "abd2806be3a10a3bf8ca4fae483cb5075ac2793f38633b1b9143ad8314d2281d", func := "zoetrope/zoetropelaw34.OrbitThrough", spec := "orbitThrough", unfollowed := true, recurses := true, apart := false }
def OrbitThroughSaid : Prop := orbitThroughRow.holds Try.pinned (OpenSpec.ofChange orbitThroughSpec)

/-- ITS FALSE NEIGHBOUR: 'it returns false'. Refute it at one input. -/
def orbitThroughWrong : ChangeSpec := { name := "orbitThrough", fn := fun _ => fun
  | [d1, d2, d3, d4] => { results := [.lit (.bool false)], args := [d1, d2, d3, d4] }
  | _ => none }
def OrbitThroughWrongFalsely : Prop := orbitThroughRow.holds Try.pinned (OpenSpec.ofChange orbitThroughWrong)

/-- 'zoetropelaw34.OrbitCircles': WHATEVER THE INPUT: true; the input reads as it did. -/
def orbitCirclesSpec : ChangeSpec := { name := "orbitCircles", fn := fun _ => fun
  | [d1, d2, d3, d4, d5, d6, d7] => { results := [.lit (.bool true)], args := [d1, d2, d3, d4, d5, d6, d7] }
  | _ => none }
def orbitCirclesRow : OpenClaim := { program := "ytigjlhhglhbbpaa", sum := "abd2806be3a10a3bf8ca4fae483cb5075ac2793f38633b1b9143ad8314d2281d", func := "zoetrope/zoetropelaw34.OrbitCircles", spec := "orbitCircles", unfollowed := true, recurses := true, apart := false }
def OrbitCirclesSaid : Prop := orbitCirclesRow.holds Try.pinned (OpenSpec.ofChange orbitCirclesSpec)

/-- ITS FALSE NEIGHBOUR: 'it returns false'. Refute it at one input. -/
def orbitCirclesWrong : ChangeSpec := { name := "orbitCircles", fn := fun _ => fun
  | [d1, d2, d3, d4, d5, d6, d7] => { results := [.lit (.bool false)], args := [d1, d2, d3, d4, d5, d6, d7] }
  | _ => none }
def OrbitCirclesWrongFalsely : Prop := orbitCirclesRow.holds Try.pinned (OpenSpec.ofChange orbitCirclesWrong)

/-- 'zoetropelaw34.OrbitBack': WHATEVER THE INPUT: true; the input reads as it did. -/
def orbitBackSpec : ChangeSpec := { name := "orbitBack", fn := fun _ => fun
  | [d1, d2] => { results := [.lit (.bool true)], args := [d1, d2] }
  | _ => none }
def orbitBackRow : OpenClaim := { program := "ytigjlhhglhbbpaa", sum := "abd2806be3a10a3bf8ca4fae483cb5075ac2793f38633b1b9143ad8314d2281d", func := "zoetrope/zoetropelaw34.OrbitBack", spec := "orbitBack", unfollowed := true, recurses := true, apart := false }
def OrbitBackSaid : Prop := orbitBackRow.holds Try.pinned (OpenSpec.ofChange orbitBackSpec)

/-- ITS FALSE NEIGHBOUR: 'it returns false'. Refute it at one input. -/
def orbitBackWrong : ChangeSpec := { name := "orbitBack", fn := fun _ => fun
  | [d1, d2] => { results := [.lit (.bool false)], args := [d1, d2] }
  | _ => none }
def OrbitBackWrongFalsely : Prop := orbitBackRow.holds Try.pinned (OpenSpec.ofChange orbitBackWrong)

/-- 'zoetropelaw34.OrbitTurns': WHATEVER THE INPUT: true; the input reads as it did. -/
def orbitTurnsSpec : ChangeSpec := { name := "orbitTurns", fn := fun _ => fun
  | [d1, d2, d3, d4] => { results := [.lit (.bool true)], args := [d1, d2, d3, d4] }
  | _ => none }
def orbitTurnsRow : OpenClaim := { program := "ytigjlhhglhbbpaa", sum := "abd2806be3a10a3bf8ca4fae483cb5075ac2793f38633b1b9143ad8314d2281d", func := "zoetrope/zoetropelaw34.OrbitTurns", spec := "orbitTurns", unfollowed := true, recurses := true, apart := false }
def OrbitTurnsSaid : Prop := orbitTurnsRow.holds Try.pinned (OpenSpec.ofChange orbitTurnsSpec)

/-- ITS FALSE NEIGHBOUR: 'it returns false'. Refute it at one input. -/
def orbitTurnsWrong : ChangeSpec := { name := "orbitTurns", fn := fun _ => fun
  | [d1, d2, d3, d4] => { results := [.lit (.bool false)], args := [d1, d2, d3, d4] }
  | _ => none }
def OrbitTurnsWrongFalsely : Prop := orbitTurnsRow.holds Try.pinned (OpenSpec.ofChange orbitTurnsWrong)

/-- 'zoetropelaw34.OrbitParts': WHATEVER THE INPUT: true; the input reads as it did. -/
def orbitPartsSpec : ChangeSpec := { name := "orbitParts", fn := fun _ => fun
  | [d1, d2, d3, d4] => { results := [.lit (.bool true)], args := [d1, d2, d3, d4] }
  | _ => none }
def orbitPartsRow : OpenClaim := { program := "ytigjlhhglhbbpaa", sum := "abd2806be3a10a3bf8ca4fae483cb5075ac2793f38633b1b9143ad8314d2281d", func := "zoetrope/zoetropelaw34.OrbitParts", spec := "orbitParts", unfollowed := true, recurses := true, apart := false }
def OrbitPartsSaid : Prop := orbitPartsRow.holds Try.pinned (OpenSpec.ofChange orbitPartsSpec)

/-- ITS FALSE NEIGHBOUR: 'it returns false'. Refute it at one input. -/
def orbitPartsWrong : ChangeSpec := { name := "orbitParts", fn := fun _ => fun
  | [d1, d2, d3, d4] => { results := [.lit (.bool false)], args := [d1, d2, d3, d4] }
  | _ => none }
def OrbitPartsWrongFalsely : Prop := orbitPartsRow.holds Try.pinned (OpenSpec.ofChange orbitPartsWrong)

/-- 'zoetropelaw40.GlanceFrames': WHATEVER THE INPUT: true; the input reads as it did. -/
def glanceFramesSpec : ChangeSpec := { name := "glanceFrames", fn := fun _ => fun
  | [d1, d2] => { results := [.lit (.bool true)], args := [d1, d2] }
  | _ => none }
def glanceFramesRow : OpenClaim := { program := "ytigjlhhglhbbpaa", sum := "abd2806be3a10a3bf8ca4fae483cb5075ac2793f38633b1b9143ad8314d2281d", func := "zoetrope/zoetropelaw40.GlanceFrames", spec := "glanceFrames", inPlace := ["internal/abi.NoEscape", "internal/bytealg.MakeNoZero"], unfollowed := true, recurses := true, apart := false }
def GlanceFramesSaid : Prop := glanceFramesRow.holds Try.pinned (OpenSpec.ofChange glanceFramesSpec)

/-- ITS FALSE NEIGHBOUR: 'it returns false'. Refute it at one input. -/
def glanceFramesWrong : ChangeSpec := { name := "glanceFrames", fn := fun _ => fun
  | [d1, d2] => { results := [.lit (.bool false)], args := [d1, d2] }
  | _ => none }
def GlanceFramesWrongFalsely : Prop := glanceFramesRow.holds Try.pinned (OpenSpec.ofChange glanceFramesWrong)

/-- 'zoetropelaw40.GlanceBars': WHATEVER THE INPUT: true; the input reads as it did. -/
def glanceBarsSpec : ChangeSpec := { name := "glanceBars", fn := fun _ => fun
  | [d1, d2] => { results := [.lit (.bool true)], args := [d1, d2] }
  | _ => none }
def glanceBarsRow : OpenClaim := { program := "ytigjlhhglhbbpaa", sum := "abd2806be3a10a3bf8ca4fae483cb5075ac2793f38633b1b9143ad8314d2281d", func := "zoetrope/zoetropelaw40.GlanceBars", spec := "glanceBars", inPlace := ["internal/abi.NoEscape", "internal/bytealg.MakeNoZero"], unfollowed := true, recurses := true, apart := false }
def GlanceBarsSaid : Prop := glanceBarsRow.holds Try.pinned (OpenSpec.ofChange glanceBarsSpec)

/-- ITS FALSE NEIGHBOUR: 'it returns false'. Refute it at one input. -/
def glanceBarsWrong : ChangeSpec := { name := "glanceBars", fn := fun _ => fun
  | [d1, d2] => { results := [.lit (.bool false)], args := [d1, d2] }
  | _ => none }
def GlanceBarsWrongFalsely : Prop := glanceBarsRow.holds Try.pinned (OpenSpec.ofChange glanceBarsWrong)

/-- 'zoetropelaw40.GlancePictures': WHATEVER THE INPUT: true; the input reads as it did. -/
def glancePicturesSpec : ChangeSpec := { name := "glancePictures", fn := fun _ => fun
  | [d] => { results := [.lit (.bool true)], args := [d] }
  | _ => none }
def glancePicturesRow : OpenClaim := { program := "ytigjlhhglhbbpaa", sum := "abd2806be3a10a3bf8ca4fae483cb5075ac2793f38633b1b9143ad8314d2281d", func := "zoetrope/zoetropelaw40.GlancePictures", spec := "glancePictures", inPlace := ["internal/abi.NoEscape", "internal/bytealg.MakeNoZero"], unfollowed := true, recurses := true, apart := false }
def GlancePicturesSaid : Prop := glancePicturesRow.holds Try.pinned (OpenSpec.ofChange glancePicturesSpec)

/-- ITS FALSE NEIGHBOUR: 'it returns false'. Refute it at one input. -/
def glancePicturesWrong : ChangeSpec := { name := "glancePictures", fn := fun _ => fun
  | [d] => { results := [.lit (.bool false)], args := [d] }
  | _ => none }
def GlancePicturesWrongFalsely : Prop := glancePicturesRow.holds Try.pinned (OpenSpec.ofChange glancePicturesWrong)

/-- 'zoetropelaw40.GlanceFilms': WHATEVER THE INPUT: true; the input reads as it did. -/
def glanceFilmsSpec : ChangeSpec := { name := "glanceFilms", fn := fun _ => fun
  | [d] => { results := [.lit (.bool true)], args := [d] }
  | _ => none }
def glanceFilmsRow : OpenClaim := { program := "ytigjlhhglhbbpaa", sum := "abd2806be3a10a3bf8ca4fae483cb5075ac2793f38633b1b9143ad8314d2281d", func := "zoetrope/zoetropelaw40.GlanceFilms", spec := "glanceFilms", inPlace := ["internal/abi.NoEscape", "internal/bytealg.MakeNoZero"], unfollowed := true, recurses := true, apart := false }
def GlanceFilmsSaid : Prop := glanceFilmsRow.holds Try.pinned (OpenSpec.ofChange glanceFilmsSpec)

/-- ITS FALSE NEIGHBOUR: 'it returns false'. Refute it at one input. -/
def glanceFilmsWrong : ChangeSpec := { name := "glanceFilms", fn := fun _ => fun
  | [d] => { results := [.lit (.bool false)], args := [d] }
  | _ => none }
def GlanceFilmsWrongFalsely : Prop := glanceFilmsRow.holds Try.pinned (OpenSpec.ofChange glanceFilmsWrong)

/- THE SECOND FORM. 'bulk': how many values and letters a reading holds, each counted each time it is reached (what is shared counts as often as it is met; a slice's spare places count too). A statement '..UptoSaid' is the law's where the arguments, and the package variables that the reading takes, are together of bulk at most 1048576: NARROWER than '..Said'. Prove '..Said' where nothing that the law and all that it calls make is longer than what came in: it says more and counts as full. Else prove '..UptoSaid'. A law counts once. -/
mutual
def uptoBulk {H : Type} : DataW H → Nat
  | .lit (.string bytes) => bytes.length + 1
  | .lit _ => 1
  | .nil => 1
  | .ptr d => uptoBulk d + 1
  | .slice elems spare => uptoBulkAll elems + uptoBulkAll spare + 1
  | .agg parts => uptoBulkAll parts + 1
  | .iface _ d => uptoBulk d + 1
  | .map entries => uptoBulkEntries entries + 1
  | .held _ => 1
def uptoBulkAll {H : Type} : List (DataW H) → Nat
  | [] => 0
  | d :: r => uptoBulk d + uptoBulkAll r
def uptoBulkEntries {H : Type} : List (Lit × DataW H) → Nat
  | [] => 0
  | x :: r => uptoBulkEntry x + uptoBulkEntries r
def uptoBulkEntry {H : Type} : Lit × DataW H → Nat
  | (.string bytes, d) => bytes.length + uptoBulk d + 1
  | (_, d) => uptoBulk d + 1
 end
def uptoSmall : (H : Type) → List (DataW H) → Bool := fun _ ds => decide (uptoBulkAll ds ≤ 1048576)
def OpenSpec.upto (s : _root_.Go.ChangeSpec) : _root_.Go.OpenSpec := { _root_.Go.OpenSpec.ofChange s with cond := some uptoSmall }

/-- 'zoetropelaw34.OrbitThrough', WHERE WHAT IT READS IS OF BULK AT MOST 1048576: true; the input reads as it did. -/
def orbitThroughUptoRow : OpenClaim := { program := "ytigjlhhglhbbpaa", sum := "abd2806be3a10a3bf8ca4fae483cb5075ac2793f38633b1b9143ad8314d2281d", func := "zoetrope/zoetropelaw34.OrbitThrough", spec := "orbitThrough", unfollowed := true, recurses := true, apart := false, narrowed := true }
def OrbitThroughUptoSaid : Prop := orbitThroughUptoRow.holds Try.pinned (OpenSpec.upto orbitThroughSpec)

/-- 'zoetropelaw34.OrbitCircles', WHERE WHAT IT READS IS OF BULK AT MOST 1048576: true; the input reads as it did. -/
def orbitCirclesUptoRow : OpenClaim := { program := "ytigjlhhglhbbpaa", sum := "abd2806be3a10a3bf8ca4fae483cb5075ac2793f38633b1b9143ad8314d2281d", func := "zoetrope/zoetropelaw34.OrbitCircles", spec := "orbitCircles", unfollowed := true, recurses := true, apart := false, narrowed := true }
def OrbitCirclesUptoSaid : Prop := orbitCirclesUptoRow.holds Try.pinned (OpenSpec.upto orbitCirclesSpec)

/-- 'zoetropelaw34.OrbitBack', WHERE WHAT IT READS IS OF BULK AT MOST 1048576: true; the input reads as it did. -/
def orbitBackUptoRow : OpenClaim := { program := "ytigjlhhglhbbpaa", sum := "abd2806be3a10a3bf8ca4fae483cb5075ac2793f38633b1b9143ad8314d2281d", func := "zoetrope/zoetropelaw34.OrbitBack", spec := "orbitBack", unfollowed := true, recurses := true, apart := false, narrowed := true }
def OrbitBackUptoSaid : Prop := orbitBackUptoRow.holds Try.pinned (OpenSpec.upto orbitBackSpec)

/-- 'zoetropelaw34.OrbitTurns', WHERE WHAT IT READS IS OF BULK AT MOST 1048576: true; the input reads as it did. -/
def orbitTurnsUptoRow : OpenClaim := { program := "ytigjlhhglhbbpaa", sum := "abd2806be3a10a3bf8ca4fae483cb5075ac2793f38633b1b9143ad8314d2281d", func := "zoetrope/zoetropelaw34.OrbitTurns", spec := "orbitTurns", unfollowed := true, recurses := true, apart := false, narrowed := true }
def OrbitTurnsUptoSaid : Prop := orbitTurnsUptoRow.holds Try.pinned (OpenSpec.upto orbitTurnsSpec)

/-- 'zoetropelaw34.OrbitParts', WHERE WHAT IT READS IS OF BULK AT MOST 1048576: true; the input reads as it did. -/
def orbitPartsUptoRow : OpenClaim := { program := "ytigjlhhglhbbpaa", sum := "abd2806be3a10a3bf8ca4fae483cb5075ac2793f38633b1b9143ad8314d2281d", func := "zoetrope/zoetropelaw34.OrbitParts", spec := "orbitParts", unfollowed := true, recurses := true, apart := false, narrowed := true }
def OrbitPartsUptoSaid : Prop := orbitPartsUptoRow.holds Try.pinned (OpenSpec.upto orbitPartsSpec)

/-- 'zoetropelaw40.GlanceFrames', WHERE WHAT IT READS IS OF BULK AT MOST 1048576: true; the input reads as it did. -/
def glanceFramesUptoRow : OpenClaim := { program := "ytigjlhhglhbbpaa", sum := "abd2806be3a10a3bf8ca4fae483cb5075ac2793f38633b1b9143ad8314d2281d", func := "zoetrope/zoetropelaw40.GlanceFrames", spec := "glanceFrames", inPlace := ["internal/abi.NoEscape", "internal/bytealg.MakeNoZero"], unfollowed := true, recurses := true, apart := false, narrowed := true }
def GlanceFramesUptoSaid : Prop := glanceFramesUptoRow.holds Try.pinned (OpenSpec.upto glanceFramesSpec)

/-- 'zoetropelaw40.GlanceBars', WHERE WHAT IT READS IS OF BULK AT MOST 1048576: true; the input reads as it did. -/
def glanceBarsUptoRow : OpenClaim := { program := "ytigjlhhglhbbpaa", sum := "abd2806be3a10a3bf8ca4fae483cb5075ac2793f38633b1b9143ad8314d2281d", func := "zoetrope/zoetropelaw40.GlanceBars", spec := "glanceBars", inPlace := ["internal/abi.NoEscape", "internal/bytealg.MakeNoZero"], unfollowed := true, recurses := true, apart := false, narrowed := true }
def GlanceBarsUptoSaid : Prop := glanceBarsUptoRow.holds Try.pinned (OpenSpec.upto glanceBarsSpec)

/-- 'zoetropelaw40.GlancePictures', WHERE WHAT IT READS IS OF BULK AT MOST 1048576: true; the input reads as it did. -/
def glancePicturesUptoRow : OpenClaim := { program := "ytigjlhhglhbbpaa", sum := "abd2806be3a10a3bf8ca4fae483cb5075ac2793f38633b1b9143ad8314d2281d", func := "zoetrope/zoetropelaw40.GlancePictures", spec := "glancePictures", inPlace := ["internal/abi.NoEscape", "internal/bytealg.MakeNoZero"], unfollowed := true, recurses := true, apart := false, narrowed := true }
def GlancePicturesUptoSaid : Prop := glancePicturesUptoRow.holds Try.pinned (OpenSpec.upto glancePicturesSpec)

/-- 'zoetropelaw40.GlanceFilms', WHERE WHAT IT READS IS OF BULK AT MOST 1048576: true; the input reads as it did. -/
def glanceFilmsUptoRow : OpenClaim := { program := "ytigjlhhglhbbpaa", sum := "abd2806be3a10a3bf8ca4fae483cb5075ac2793f38633b1b9143ad8314d2281d", func := "zoetrope/zoetropelaw40.GlanceFilms", spec := "glanceFilms", inPlace := ["internal/abi.NoEscape", "internal/bytealg.MakeNoZero"], unfollowed := true, recurses := true, apart := false, narrowed := true }
def GlanceFilmsUptoSaid : Prop := glanceFilmsUptoRow.holds Try.pinned (OpenSpec.upto glanceFilmsSpec)

end Rows
end Go.Proofs.Ytigjlhhglhbbpaa
