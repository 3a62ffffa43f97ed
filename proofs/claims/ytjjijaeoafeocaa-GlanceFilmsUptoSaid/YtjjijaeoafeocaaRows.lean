/-
  No cell of these rows narrows 'for every input' (looked for: loops, veiled, ifaces, maps, wideKeys, modest, calm, conditions, laid).
  DERIVED. THE GIVEN ROWS OF THIS SEAT. 4 by the template 'for every input the law returns true; each argument reads behind the call as it read before'; 0 by the template 'total and deterministic' (their statements: YtjjijaeoafeocaaTotals.lean).
  GIVEN WITH THE SEED: the statements are not yours to turn. If you find one false, say at which input.
  Laid BY PROGRAM, IN A SANDBOX (cutbox-rows.mjs): the forced cells as the released guide's own fill.sh prints them over the translation 4c7be795b52990d7… (all of the seat's roots in one cut). By AI agents, Wed Nov 11 2026. No macro, syntax, notation, axiom, sorry.
-/
import Derived.Test.YtjjijaeoafeocaaChecked
import GoSem.Claim
import GoSem.ClaimJoined
import GoSem.ClaimMapViews
import Derived.JoinedTies
import Derived.KernelRfl
namespace Go.Proofs.Ytjjijaeoafeocaa
/- THE CELL 'sum', in the pinned program and in every row, IS THE sha256 OF THE DUMP (.gsa) THAT YtjjijaeoafeocaaProg.lean LOADS. Nothing in Lean hashes anything: it is a label: what it is worth is what the hold of that sum in a sandbox is worth. -/
noncomputable def Try.pinned : Pinned := { name := "ytjjijaeoafeocaa", sum := "4c7be795b52990d7b4f2272ad1390da6b95190c22bf06cf875d0595f33fdce9b", checked := Try.checked }
namespace Rows
def none {H : Type} : Left H := { results := [], args := [] }

/-- 'zoetropelaw40.GlanceFrames': WHATEVER THE INPUT: true; the input reads as it did. -/
def glanceFramesSpec : ChangeSpec := { name := "glanceFrames", fn := fun _ => fun
  | [d1, d2] => { results := [.lit (.bool true)], args := [d1, d2] }
  | _ => none }
def glanceFramesRow : OpenClaim := { program := "ytjjijaeoafeocaa", sum := "4c7be795b52990d7b4f2272ad1390da6b95190c22bf06cf875d0595f33fdce9b", func := "zoetrope/zoetropelaw40.GlanceFrames", spec := "glanceFrames", inPlace := ["internal/abi.NoEscape", "internal/bytealg.MakeNoZero"], unfollowed := true, recurses := true, apart := false }
def GlanceFramesSaid : Prop := glanceFramesRow.holds Try.pinned (OpenSpec.ofChange glanceFramesSpec)

/-- ITS FALSE NEIGHBOUR: 'it returns false'. Refute it at one input. -/
def glanceFramesWrong : ChangeSpec := { name := "glanceFrames", fn := fun _ => fun
  | [d1, d2] => { results := [.lit (.bool false)], args := [d1, d2] }
  | _ => none }
def GlanceFramesWrongFalsely : Prop := glanceFramesRow.holds Try.pinned (OpenSpec.ofChange glanceFramesWrong)

/-- 'zoetropelaw40.GlanceBars': WHATEVER THE INPUT: true; the input reads as it did. -/
def glanceBarsSpec : ChangeSpec := { name := "glanceBars", fn := fun _ => fun
  | [d1, d2] => { results := [.lit (.bool true)], args := [d1, d2] }
  | _ => none }
def glanceBarsRow : OpenClaim := { program := "ytjjijaeoafeocaa", sum := "4c7be795b52990d7b4f2272ad1390da6b95190c22bf06cf875d0595f33fdce9b", func := "zoetrope/zoetropelaw40.GlanceBars", spec := "glanceBars", inPlace := ["internal/abi.NoEscape", "internal/bytealg.MakeNoZero"], unfollowed := true, recurses := true, apart := false }
def GlanceBarsSaid : Prop := glanceBarsRow.holds Try.pinned (OpenSpec.ofChange glanceBarsSpec)

/-- ITS FALSE NEIGHBOUR: 'it returns false'. Refute it at one input. -/
def glanceBarsWrong : ChangeSpec := { name := "glanceBars", fn := fun _ => fun
  | [d1, d2] => { results := [.lit (.bool false)], args := [d1, d2] }
  | _ => none }
def GlanceBarsWrongFalsely : Prop := glanceBarsRow.holds Try.pinned (OpenSpec.ofChange glanceBarsWrong)

/-- 'zoetropelaw40.GlancePictures': WHATEVER THE INPUT: true; the input reads as it did. -/
def glancePicturesSpec : ChangeSpec := { name := "glancePictures", fn := fun _ => fun
  | [d] => { results := [.lit (.bool true)], args := [d] }
  | _ => none }
def glancePicturesRow : OpenClaim := { program := "ytjjijaeoafeocaa", sum := "4c7be795b52990d7b4f2272ad1390da6b95190c22bf06cf875d0595f33fdce9b", func := "zoetrope/zoetropelaw40.GlancePictures", spec := "glancePictures", inPlace := ["internal/abi.NoEscape", "internal/bytealg.MakeNoZero"], unfollowed := true, recurses := true, apart := false }
def GlancePicturesSaid : Prop := glancePicturesRow.holds Try.pinned (OpenSpec.ofChange glancePicturesSpec)

/-- ITS FALSE NEIGHBOUR: 'it returns false'. Refute it at one input. -/
def glancePicturesWrong : ChangeSpec := { name := "glancePictures", fn := fun _ => fun
  | [d] => { results := [.lit (.bool false)], args := [d] }
  | _ => none }
def GlancePicturesWrongFalsely : Prop := glancePicturesRow.holds Try.pinned (OpenSpec.ofChange glancePicturesWrong)

/-- 'zoetropelaw40.GlanceFilms': WHATEVER THE INPUT: true; the input reads as it did. -/
def glanceFilmsSpec : ChangeSpec := { name := "glanceFilms", fn := fun _ => fun
  | [d] => { results := [.lit (.bool true)], args := [d] }
  | _ => none }
def glanceFilmsRow : OpenClaim := { program := "ytjjijaeoafeocaa", sum := "4c7be795b52990d7b4f2272ad1390da6b95190c22bf06cf875d0595f33fdce9b", func := "zoetrope/zoetropelaw40.GlanceFilms", spec := "glanceFilms", inPlace := ["internal/abi.NoEscape", "internal/bytealg.MakeNoZero"], unfollowed := true, recurses := true, apart := false }
def GlanceFilmsSaid : Prop := glanceFilmsRow.holds Try.pinned (OpenSpec.ofChange glanceFilmsSpec)

/-- ITS FALSE NEIGHBOUR: 'it returns false'. Refute it at one input. -/
def glanceFilmsWrong : ChangeSpec := { name := "glanceFilms", fn := fun _ => fun
  | [d] => { results := [.lit (.bool false)], args := [d] }
  | _ => none }
def GlanceFilmsWrongFalsely : Prop := glanceFilmsRow.holds Try.pinned (OpenSpec.ofChange glanceFilmsWrong)

/- THE SECOND FORM. 'bulk': how many values and letters a reading holds, each counted each time it is reached (what is shared counts as often as it is met; a slice's spare places count too). A statement '..UptoSaid' is the law's where the arguments, and the package variables that the reading takes, are together of bulk at most 1048576: NARROWER than '..Said'. Prove '..Said' where nothing that the law and all that it calls make is longer than what came in: it says more and counts as full. Else prove '..UptoSaid'. A law counts once. -/
mutual
def uptoBulk {H : Type} : DataW H → Nat
  | .lit (.string bytes) => bytes.length + 1
  | .lit _ => 1
  | .nil => 1
  | .ptr d => uptoBulk d + 1
  | .slice elems spare => uptoBulkAll elems + uptoBulkAll spare + 1
  | .agg parts => uptoBulkAll parts + 1
  | .iface _ d => uptoBulk d + 1
  | .map entries => uptoBulkEntries entries + 1
  | .held _ => 1
def uptoBulkAll {H : Type} : List (DataW H) → Nat
  | [] => 0
  | d :: r => uptoBulk d + uptoBulkAll r
def uptoBulkEntries {H : Type} : List (Lit × DataW H) → Nat
  | [] => 0
  | x :: r => uptoBulkEntry x + uptoBulkEntries r
def uptoBulkEntry {H : Type} : Lit × DataW H → Nat
  | (.string bytes, d) => bytes.length + uptoBulk d + 1
  | (_, d) => uptoBulk d + 1
 end
def uptoSmall : (H : Type) → List (DataW H) → Bool := fun _ ds => decide (uptoBulkAll ds ≤ 1048576)
def OpenSpec.upto (s : _root_.Go.ChangeSpec) : _root_.Go.OpenSpec := { _root_.Go.OpenSpec.ofChange s with cond := some uptoSmall }

/-- 'zoetropelaw40.GlanceFrames', WHERE WHAT IT READS IS OF BULK AT MOST 1048576: true; the input reads as it did. -/
def glanceFramesUptoRow : OpenClaim := { program := "ytjjijaeoafeocaa", sum := "4c7be795b52990d7b4f2272ad1390da6b95190c22bf06cf875d0595f33fdce9b", func := "zoetrope/zoetropelaw40.GlanceFrames", spec := "glanceFrames", inPlace := ["internal/abi.NoEscape", "internal/bytealg.MakeNoZero"], unfollowed := true, recurses := true, apart := false, narrowed := true }
def GlanceFramesUptoSaid : Prop := glanceFramesUptoRow.holds Try.pinned (OpenSpec.upto glanceFramesSpec)

/-- 'zoetropelaw40.GlanceBars', WHERE WHAT IT READS IS OF BULK AT MOST 1048576: true; the input reads as it did. -/
def glanceBarsUptoRow : OpenClaim := { program := "ytjjijaeoafeocaa", sum := "4c7be795b52990d7b4f2272ad1390da6b95190c22bf06cf875d0595f33fdce9b", func := "zoetrope/zoetropelaw40.GlanceBars", spec := "glanceBars", inPlace := ["internal/abi.NoEscape", "internal/bytealg.MakeNoZero"], unfollowed := true, recurses := true, apart := false, narrowed := true }
def GlanceBarsUptoSaid : Prop := glanceBarsUptoRow.holds Try.pinned (OpenSpec.upto glanceBarsSpec)

/-- 'zoetropelaw40.GlancePictures', WHERE WHAT IT READS IS OF BULK AT MOST 1048576: true; the input reads as it did. -/
def glancePicturesUptoRow : OpenClaim := { program := "ytjjijaeoafeocaa", sum := "4c7be795b52990d7b4f2272ad1390da6b95190c22bf06cf875d0595f33fdce9b", func := "zoetrope/zoetropelaw40.GlancePictures", spec := "glancePictures", inPlace := ["internal/abi.NoEscape", "internal/bytealg.MakeNoZero"], unfollowed := true, recurses := true, apart := false, narrowed := true }
def GlancePicturesUptoSaid : Prop := glancePicturesUptoRow.holds Try.pinned (OpenSpec.upto glancePicturesSpec)

/-- 'zoetropelaw40.GlanceFilms', WHERE WHAT IT READS IS OF BULK AT MOST 1048576: true; the input reads as it did. -/
def glanceFilmsUptoRow : OpenClaim := { program := "ytjjijaeoafeocaa", sum := "4c7be795b52990d7b4f2272ad1390da6b95190c22bf06cf875d0595f33fdce9b", func := "zoetrope/zoetropelaw40.GlanceFilms", spec := "glanceFilms", inPlace := ["internal/abi.NoEscape", "internal/bytealg.MakeNoZero"], unfollowed := true, recurses := true, apart := false, narrowed := true }
def GlanceFilmsUptoSaid : Prop := glanceFilmsUptoRow.holds Try.pinned (OpenSpec.upto glanceFilmsSpec)

end Rows
end Go.Proofs.Ytjjijaeoafeocaa
