/-
  No cell of these rows narrows 'for every input' (looked for: loops, veiled, ifaces, maps, wideKeys, modest, calm, conditions, laid).
  DERIVED. THE GIVEN ROWS OF THIS SEAT. 5 by the template 'for every input the law returns true; each argument reads behind the call as it read before'; 0 by the template 'total and deterministic' (their statements: YtmpaelkjooahoaaTotals.lean).
  GIVEN WITH THE SEED: the statements are not yours to turn. If you find one false, say at which input.
  Laid BY PROGRAM, IN A SANDBOX (cutbox-rows.mjs): the forced cells as the released guide's own fill.sh prints them over the translation 741bbb089201b13f… (all of the seat's roots in one cut). By AI agents, Wed Nov 11 2026. No macro, syntax, notation, axiom, sorry.
-/
import Derived.Test.YtmpaelkjooahoaaChecked
import GoSem.Claim
import GoSem.ClaimJoined
import GoSem.ClaimMapViews
import Derived.JoinedTies
import Derived.KernelRfl
namespace Go.Proofs.Ytmpaelkjooahoaa
/- THE CELL 'sum', in the pinned program and in every row, IS THE sha256 OF THE DUMP (.gsa) THAT YtmpaelkjooahoaaProg.lean LOADS. Nothing in Lean hashes anything: it is a label: what it is worth is what the hold of that sum in a sandbox is worth. -/
noncomputable def Try.pinned : Pinned := { name := "ytmpaelkjooahoaa", sum := "741bbb089201b13f0a6e79a8f071fe746972bbb01484e62dc58102c5e83133f6", checked := Try.checked }
namespace Rows
def none {H : Type} : Left H := { results := [], args := [] }

/-- 'zoetropelaw34.OrbitThrough': WHATEVER THE INPUT: true; the input reads as it did. -/
def orbitThroughSpec : ChangeSpec := { name := "orbitThrough", fn := fun _ => fun
  | [d1, d2, d3, d4] => { results := [.lit (.bool true)], args := [d1, d2, d3, d4] }
  | _ => none }
def orbitThroughRow : OpenClaim := { program := "ytmpaelkjooahoaa", sum := "741bbb089201b13f0a6e79a8f071fe746972bbb01484e62dc58102c5e83133f6", func := "zoetrope/zoetropelaw34.OrbitThrough", spec := "orbitThrough", unfollowed := true, recurses := true, apart := false }
def OrbitThroughSaid : Prop := orbitThroughRow.holds Try.pinned (OpenSpec.ofChange orbitThroughSpec)

/-- ITS FALSE NEIGHBOUR: 'it returns false'. Refute it at one input. -/
def orbitThroughWrong : ChangeSpec := { name := "orbitThrough", fn := fun _ => fun
  | [d1, d2, d3, d4] => { results := [.lit (.bool false)], args := [d1, d2, d3, d4] }
  | _ => none }
def OrbitThroughWrongFalsely : Prop := orbitThroughRow.holds Try.pinned (OpenSpec.ofChange orbitThroughWrong)

/-- 'zoetropelaw34.OrbitCircles': WHATEVER THE INPUT: true; the input reads as it did. -/
def orbitCirclesSpec : ChangeSpec := { name := "orbitCircles", fn := fun _ => fun
  | [d1, d2, d3, d4, d5, d6, d7] => { results := [.lit (.bool true)], args := [d1, d2, d3, d4, d5, d6, d7] }
  | _ => none }
def orbitCirclesRow : OpenClaim := { program := "ytmpaelkjooahoaa", sum := "741bbb089201b13f0a6e79a8f071fe746972bbb01484e62dc58102c5e83133f6", func := "zoetrope/zoetropelaw34.OrbitCircles", spec := "orbitCircles", unfollowed := true, recurses := true, apart := false }
def OrbitCirclesSaid : Prop := orbitCirclesRow.holds Try.pinned (OpenSpec.ofChange orbitCirclesSpec)

/-- ITS FALSE NEIGHBOUR: 'it returns false'. Refute it at one input. -/
def orbitCirclesWrong : ChangeSpec := { name := "orbitCircles", fn := fun _ => fun
  | [d1, d2, d3, d4, d5, d6, d7] => { results := [.lit (.bool false)], args := [d1, d2, d3, d4, d5, d6, d7] }
  | _ => none }
def OrbitCirclesWrongFalsely : Prop := orbitCirclesRow.holds Try.pinned (OpenSpec.ofChange orbitCirclesWrong)

/-- 'zoetropelaw34.OrbitBack': WHATEVER THE INPUT: true; the input reads as it did. -/
def orbitBackSpec : ChangeSpec := { name := "orbitBack", fn := fun _ => fun
  | [d1, d2] => { results := [.lit (.bool true)], args := [d1, d2] }
  | _ => none }
def orbitBackRow : OpenClaim := { program := "ytmpaelkjooahoaa", sum := "741bbb089201b13f0a6e79a8f071fe746972bbb01484e62dc58102c5e83133f6", func := "zoetrope/zoetropelaw34.OrbitBack", spec := "orbitBack", unfollowed := true, recurses := true, apart := false }
def OrbitBackSaid : Prop := orbitBackRow.holds Try.pinned (OpenSpec.ofChange orbitBackSpec)

/-- ITS FALSE NEIGHBOUR: 'it returns false'. Refute it at one input. -/
def orbitBackWrong : ChangeSpec := { name := "orbitBack", fn := fun _ => fun
  | [d1, d2] => { results := [.lit (.bool false)], args := [d1, d2] }
  | _ => none }
def OrbitBackWrongFalsely : Prop := orbitBackRow.holds Try.pinned (OpenSpec.ofChange orbitBackWrong)

/-- 'zoetropelaw34.OrbitTurns': WHATEVER THE INPUT: true; the input reads as it did. -/
def orbitTurnsSpec : ChangeSpec := { name := "orbitTurns", fn := fun _ => fun
  | [d1, d2, d3, d4] => { results := [.lit (.bool true)], args := [d1, d2, d3, d4] }
  | _ => none }
def orbitTurnsRow : OpenClaim := { program := "ytmpaelkjooahoaa", sum := "741bbb089201b13f0a6e79a8f071fe746972bbb01484e62dc58102c5e83133f6", func := "zoetrope/zoetropelaw34.OrbitTurns", spec := "orbitTurns", unfollowed := true, recurses := true, apart := false }
def OrbitTurnsSaid : Prop := orbitTurnsRow.holds Try.pinned (OpenSpec.ofChange orbitTurnsSpec)

/-- ITS FALSE NEIGHBOUR: 'it returns false'. Refute it at one input. -/
def orbitTurnsWrong : ChangeSpec := { name := "orbitTurns", fn := fun _ => fun
  | [d1, d2, d3, d4] => { results := [.lit (.bool false)], args := [d1, d2, d3, d4] }
  | _ => none }
def OrbitTurnsWrongFalsely : Prop := orbitTurnsRow.holds Try.pinned (OpenSpec.ofChange orbitTurnsWrong)

/-- 'zoetropelaw34.OrbitParts': WHATEVER THE INPUT: true; the input reads as it did. -/
def orbitPartsSpec : ChangeSpec := { name := "orbitParts", fn := fun _ => fun
  | [d1, d2, d3, d4] => { results := [.lit (.bool true)], args := [d1, d2, d3, d4] }
  | _ => none }
def orbitPartsRow : OpenClaim := { program := "ytmpaelkjooahoaa", sum := "741bbb089201b13f0a6e79a8f071fe746972bbb01484e62dc58102c5e83133f6", func := "zoetrope/zoetropelaw34.OrbitParts", spec := "orbitParts", unfollowed := true, recurses := true, apart := false }
def OrbitPartsSaid : Prop := orbitPartsRow.holds Try.pinned (OpenSpec.ofChange orbitPartsSpec)

/-- ITS FALSE NEIGHBOUR: 'it returns false'. Refute it at one input. -/
def orbitPartsWrong : ChangeSpec := { name := "orbitParts", fn := fun _ => fun
  | [d1, d2, d3, d4] => { results := [.lit (.bool false)], args := [d1, d2, d3, d4] }
  | _ => none }
def OrbitPartsWrongFalsely : Prop := orbitPartsRow.holds Try.pinned (OpenSpec.ofChange orbitPartsWrong)

/- THE SECOND FORM. 'bulk': how many values and letters a reading holds, each counted each time it is reached (what is shared counts as often as it is met; a slice's spare places count too). A statement '..UptoSaid' is the law's where the arguments, and the package variables that the reading takes, are together of bulk at most 1048576: NARROWER than '..Said'. Prove '..Said' where nothing that the law and all that it calls make is longer than what came in: it says more and counts as full. Else prove '..UptoSaid'. A law counts once. -/
mutual
def uptoBulk {H : Type} : DataW H → Nat
  | .lit (.string bytes) => bytes.length + 1
  | .lit _ => 1
  | .nil => 1
  | .ptr d => uptoBulk d + 1
  | .slice elems spare => uptoBulkAll elems + uptoBulkAll spare + 1
  | .agg parts => uptoBulkAll parts + 1
  | .iface _ d => uptoBulk d + 1
  | .map entries => uptoBulkEntries entries + 1
  | .held _ => 1
def uptoBulkAll {H : Type} : List (DataW H) → Nat
  | [] => 0
  | d :: r => uptoBulk d + uptoBulkAll r
def uptoBulkEntries {H : Type} : List (Lit × DataW H) → Nat
  | [] => 0
  | x :: r => uptoBulkEntry x + uptoBulkEntries r
def uptoBulkEntry {H : Type} : Lit × DataW H → Nat
  | (.string bytes, d) => bytes.length + uptoBulk d + 1
  | (_, d) => uptoBulk d + 1
 end
def uptoSmall : (H : Type) → List (DataW H) → Bool := fun _ ds => decide (uptoBulkAll ds ≤ 1048576)
def OpenSpec.upto (s : _root_.Go.ChangeSpec) : _root_.Go.OpenSpec := { _root_.Go.OpenSpec.ofChange s with cond := some uptoSmall }

/-- 'zoetropelaw34.OrbitThrough', WHERE WHAT IT READS IS OF BULK AT MOST 1048576: true; the input reads as it did. -/
def orbitThroughUptoRow : OpenClaim := { program := "ytmpaelkjooahoaa", sum := "741bbb089201b13f0a6e79a8f071fe746972bbb01484e62dc58102c5e83133f6", func := "zoetrope/zoetropelaw34.OrbitThrough", spec := "orbitThrough", unfollowed := true, recurses := true, apart := false, narrowed := true }
def OrbitThroughUptoSaid : Prop := orbitThroughUptoRow.holds Try.pinned (OpenSpec.upto orbitThroughSpec)

/-- 'zoetropelaw34.OrbitCircles', WHERE WHAT IT READS IS OF BULK AT MOST 1048576: true; the input reads as it did. -/
def orbitCirclesUptoRow : OpenClaim := { program := "ytmpaelkjooahoaa", sum := "741bbb089201b13f0a6e79a8f071fe746972bbb01484e62dc58102c5e83133f6", func := "zoetrope/zoetropelaw34.OrbitCircles", spec := "orbitCircles", unfollowed := true, recurses := true, apart := false, narrowed := true }
def OrbitCirclesUptoSaid : Prop := orbitCirclesUptoRow.holds Try.pinned (OpenSpec.upto orbitCirclesSpec)

/-- 'zoetropelaw34.OrbitBack', WHERE WHAT IT READS IS OF BULK AT MOST 1048576: true; the input reads as it did. -/
def orbitBackUptoRow : OpenClaim := { program := "ytmpaelkjooahoaa", sum := "741bbb089201b13f0a6e79a8f071fe746972bbb01484e62dc58102c5e83133f6", func := "zoetrope/zoetropelaw34.OrbitBack", spec := "orbitBack", unfollowed := true, recurses := true, apart := false, narrowed := true }
def OrbitBackUptoSaid : Prop := orbitBackUptoRow.holds Try.pinned (OpenSpec.upto orbitBackSpec)

/-- 'zoetropelaw34.OrbitTurns', WHERE WHAT IT READS IS OF BULK AT MOST 1048576: true; the input reads as it did. -/
def orbitTurnsUptoRow : OpenClaim := { program := "ytmpaelkjooahoaa", sum := "741bbb089201b13f0a6e79a8f071fe746972bbb01484e62dc58102c5e83133f6", func := "zoetrope/zoetropelaw34.OrbitTurns", spec := "orbitTurns", unfollowed := true, recurses := true, apart := false, narrowed := true }
def OrbitTurnsUptoSaid : Prop := orbitTurnsUptoRow.holds Try.pinned (OpenSpec.upto orbitTurnsSpec)

/-- 'zoetropelaw34.OrbitParts', WHERE WHAT IT READS IS OF BULK AT MOST 1048576: true; the input reads as it did. -/
def orbitPartsUptoRow : OpenClaim := { program := "ytmpaelkjooahoaa", sum := "741bbb089201b13f0a6e79a8f071fe746972bbb01484e62dc58102c5e83133f6", func := "zoetrope/zoetropelaw34.OrbitParts", spec := "orbitParts", unfollowed := true, recurses := true, apart := false, narrowed := true }
def OrbitPartsUptoSaid : Prop := orbitPartsUptoRow.holds Try.pinned (OpenSpec.upto orbitPartsSpec)

end Rows
end Go.Proofs.Ytmpaelkjooahoaa
