/-
  No cell of these rows narrows 'for every input' (looked for: loops, veiled, ifaces, maps, wideKeys, modest, calm, conditions, laid).
  DERIVED. THE GIVEN ROWS OF THIS SEAT. 3 by the template 'for every input the law returns true; each argument reads behind the call as it read before'; 0 by the template 'total and deterministic' (their statements: YtikhlpbloffidaaTotals.lean).
  GIVEN WITH THE SEED: the statements are not yours to turn. If you find one false, say at which input.
  Laid BY PROGRAM, IN A SANDBOX (cutbox-rows.mjs): the forced cells as the released guide's own fill.sh prints them over the translation 6b5fa9da58e4e0e7… (all of the seat's roots in one cut). By AI agents, Wed Nov 11 2026. No macro, syntax, notation, axiom, sorry.
-/
import Derived.Test.YtikhlpbloffidaaChecked
import GoSem.Claim
import GoSem.ClaimJoined
import GoSem.ClaimMapViews
import Derived.JoinedTies
import Derived.KernelRfl
namespace Go.Proofs.Ytikhlpbloffidaa
/- THE CELL 'sum', in the pinned program and in every row, IS THE sha256 OF THE DUMP (.gsa) THAT YtikhlpbloffidaaProg.lean LOADS. Nothing in Lean hashes anything: it is a label: what it is worth is what the hold of that sum in a sandbox is worth. -/
noncomputable def Try.pinned : Pinned := { name := "ytikhlpbloffidaa", sum := "6b5fa9da58e4e0e73ab6eb044852e3d448961fc06851313ef8c2e0d40bbf54b9", checked := Try.checked }
namespace Rows
def none {H : Type} : Left H := { results := [], args := [] }

/-- 'zoetropelaw29.PackPresses': WHATEVER THE INPUT: true; the input reads as it did. -/
def packPressesSpec : ChangeSpec := { name := "packPresses", fn := fun _ => fun
  | [d] => { results := [.lit (.bool true)], args := [d] }
  | _ => none }
def packPressesRow : OpenClaim := { program := "ytikhlpbloffidaa", sum := "6b5fa9da58e4e0e73ab6eb044852e3d448961fc06851313ef8c2e0d40bbf54b9", func := "zoetrope/zoetropelaw29.PackPresses", spec := "packPresses", apart := false }
def PackPressesSaid : Prop := packPressesRow.holds Try.pinned (OpenSpec.ofChange packPressesSpec)

/-- ITS FALSE NEIGHBOUR: 'it returns false'. Refute it at one input. -/
def packPressesWrong : ChangeSpec := { name := "packPresses", fn := fun _ => fun
  | [d] => { results := [.lit (.bool false)], args := [d] }
  | _ => none }
def PackPressesWrongFalsely : Prop := packPressesRow.holds Try.pinned (OpenSpec.ofChange packPressesWrong)

/-- 'zoetropelaw29.PackSpreads': WHATEVER THE INPUT: true; the input reads as it did. -/
def packSpreadsSpec : ChangeSpec := { name := "packSpreads", fn := fun _ => fun
  | [d1, d2] => { results := [.lit (.bool true)], args := [d1, d2] }
  | _ => none }
def packSpreadsRow : OpenClaim := { program := "ytikhlpbloffidaa", sum := "6b5fa9da58e4e0e73ab6eb044852e3d448961fc06851313ef8c2e0d40bbf54b9", func := "zoetrope/zoetropelaw29.PackSpreads", spec := "packSpreads", apart := false }
def PackSpreadsSaid : Prop := packSpreadsRow.holds Try.pinned (OpenSpec.ofChange packSpreadsSpec)

/-- ITS FALSE NEIGHBOUR: 'it returns false'. Refute it at one input. -/
def packSpreadsWrong : ChangeSpec := { name := "packSpreads", fn := fun _ => fun
  | [d1, d2] => { results := [.lit (.bool false)], args := [d1, d2] }
  | _ => none }
def PackSpreadsWrongFalsely : Prop := packSpreadsRow.holds Try.pinned (OpenSpec.ofChange packSpreadsWrong)

/-- 'zoetropelaw29.PackBack': WHATEVER THE INPUT: true; the input reads as it did. -/
def packBackSpec : ChangeSpec := { name := "packBack", fn := fun _ => fun
  | [d1, d2] => { results := [.lit (.bool true)], args := [d1, d2] }
  | _ => none }
def packBackRow : OpenClaim := { program := "ytikhlpbloffidaa", sum := "6b5fa9da58e4e0e73ab6eb044852e3d448961fc06851313ef8c2e0d40bbf54b9", func := "zoetrope/zoetropelaw29.PackBack", spec := "packBack", apart := false }
def PackBackSaid : Prop := packBackRow.holds Try.pinned (OpenSpec.ofChange packBackSpec)

/-- ITS FALSE NEIGHBOUR: 'it returns false'. Refute it at one input. -/
def packBackWrong : ChangeSpec := { name := "packBack", fn := fun _ => fun
  | [d1, d2] => { results := [.lit (.bool false)], args := [d1, d2] }
  | _ => none }
def PackBackWrongFalsely : Prop := packBackRow.holds Try.pinned (OpenSpec.ofChange packBackWrong)

/- THE SECOND FORM. 'bulk': how many values and letters a reading holds, each counted each time it is reached (what is shared counts as often as it is met; a slice's spare places count too). A statement '..UptoSaid' is the law's where the arguments, and the package variables that the reading takes, are together of bulk at most 1048576: NARROWER than '..Said'. Prove '..Said' where nothing that the law and all that it calls make is longer than what came in: it says more and counts as full. Else prove '..UptoSaid'. A law counts once. -/
mutual
def uptoBulk {H : Type} : DataW H → Nat
  | .lit (.string bytes) => bytes.length + 1
  | .lit _ => 1
  | .nil => 1
  | .ptr d => uptoBulk d + 1
  | .slice elems spare => uptoBulkAll elems + uptoBulkAll spare + 1
  | .agg parts => uptoBulkAll parts + 1
  | .iface _ d => uptoBulk d + 1
  | .map entries => uptoBulkEntries entries + 1
  | .held _ => 1
def uptoBulkAll {H : Type} : List (DataW H) → Nat
  | [] => 0
  | d :: r => uptoBulk d + uptoBulkAll r
def uptoBulkEntries {H : Type} : List (Lit × DataW H) → Nat
  | [] => 0
  | x :: r => uptoBulkEntry x + uptoBulkEntries r
def uptoBulkEntry {H : Type} : Lit × DataW H → Nat
  | (.string bytes, d) => bytes.length + uptoBulk d + 1
  | (_, d) => uptoBulk d + 1
 end
def uptoSmall : (H : Type) → List (DataW H) → Bool := fun _ ds => decide (uptoBulkAll ds ≤ 1048576)
def OpenSpec.upto (s : _root_.Go.ChangeSpec) : _root_.Go.OpenSpec := { _root_.Go.OpenSpec.ofChange s with cond := some uptoSmall }

/-- 'zoetropelaw29.PackPresses', WHERE WHAT IT READS IS OF BULK AT MOST 1048576: true; the input reads as it did. -/
def packPressesUptoRow : OpenClaim := { program := "ytikhlpbloffidaa", sum := "6b5fa9da58e4e0e73ab6eb044852e3d448961fc06851313ef8c2e0d40bbf54b9", func := "zoetrope/zoetropelaw29.PackPresses", spec := "packPresses", apart := false, narrowed := true }
def PackPressesUptoSaid : Prop := packPressesUptoRow.holds Try.pinned (OpenSpec.upto packPressesSpec)

/-- 'zoetropelaw29.PackSpreads', WHERE WHAT IT READS IS OF BULK AT MOST 1048576: true; the input reads as it did. -/
def packSpreadsUptoRow : OpenClaim := { program := "ytikhlpbloffidaa", sum := "6b5fa9da58e4e0e73ab6eb044852e3d448961fc06851313ef8c2e0d40bbf54b9", func := "zoetrope/zoetropelaw29.PackSpreads", spec := "packSpreads", apart := false, narrowed := true }
def PackSpreadsUptoSaid : Prop := packSpreadsUptoRow.holds Try.pinned (OpenSpec.upto packSpreadsSpec)

/-- 'zoetropelaw29.PackBack', WHERE WHAT IT READS IS OF BULK AT MOST 1048576: true; the input reads as it did. -/
def packBackUptoRow : OpenClaim := { program := "ytikhlpbloffidaa", sum := "6b5fa9da58e4e0e73ab6eb044852e3d448961fc06851313ef8c2e0d40bbf54b9", func := "zoetrope/zoetropelaw29.PackBack", spec := "packBack", apart := false, narrowed := true }
def PackBackUptoSaid : Prop := packBackUptoRow.holds Try.pinned (OpenSpec.upto packBackSpec)

end Rows
end Go.Proofs.Ytikhlpbloffidaa
