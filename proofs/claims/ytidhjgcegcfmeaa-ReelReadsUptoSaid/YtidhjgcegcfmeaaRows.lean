/-
  No cell of these rows narrows 'for every input' (looked for: loops, veiled, ifaces, maps, wideKeys, modest, calm, conditions, laid).
  DERIVED. THE GIVEN ROWS OF THIS SEAT. 4 by the template 'for every input the law returns true; each argument reads behind the call as it read before'; 0 by the template 'total and deterministic' (their statements: YtidhjgcegcfmeaaTotals.lean).
  GIVEN WITH THE SEED: the statements are not yours to turn. If you find one false, say at which input.
  Laid BY PROGRAM, IN A SANDBOX (cutbox-rows.mjs): the forced cells as the released guide's own fill.sh prints them over the translation ba2c7737e06586c0… (all of the seat's roots in one cut). By AI agents, Wed Nov 11 2026. No macro, syntax, notation, axiom, sorry.
-/
import Derived.Test.YtidhjgcegcfmeaaChecked
import GoSem.Claim
import GoSem.ClaimJoined
import GoSem.ClaimMapViews
import Derived.JoinedTies
import Derived.KernelRfl
namespace Go.Proofs.Ytidhjgcegcfmeaa
/- THE CELL 'sum', in the pinned program and in every row, IS THE sha256 OF THE DUMP (.gsa) THAT YtidhjgcegcfmeaaProg.lean LOADS. Nothing in Lean hashes anything: it is a label: what it is worth is what the hold of that sum in a sandbox is worth. -/
noncomputable def Try.pinned : Pinned := { name := "ytidhjgcegcfmeaa", sum := "ba2c7737e06586c07211bb7665d516e741235164bfa7d75393f4340043e026a6", checked := Try.checked }
namespace Rows
def none {H : Type} : Left H := { results := [], args := [] }

/-- 'zoetropelaw07.ReelLays': WHATEVER THE INPUT: true; the input reads as it did. -/
def reelLaysSpec : ChangeSpec := { name := "reelLays", fn := fun _ => fun
  | [d1, d2] => { results := [.lit (.bool true)], args := [d1, d2] }
  | _ => none }
def reelLaysRow : OpenClaim := { program := "ytidhjgcegcfmeaa", sum := "ba2c7737e06586c07211bb7665d516e741235164bfa7d75393f4340043e026a6", func := "zoetrope/zoetropelaw07.ReelLays", spec := "reelLays", apart := false }
def ReelLaysSaid : Prop := reelLaysRow.holds Try.pinned (OpenSpec.ofChange reelLaysSpec)

/-- ITS FALSE NEIGHBOUR: 'it returns false'. Refute it at one input. -/
def reelLaysWrong : ChangeSpec := { name := "reelLays", fn := fun _ => fun
  | [d1, d2] => { results := [.lit (.bool false)], args := [d1, d2] }
  | _ => none }
def ReelLaysWrongFalsely : Prop := reelLaysRow.holds Try.pinned (OpenSpec.ofChange reelLaysWrong)

/-- 'zoetropelaw07.ReelReads': WHATEVER THE INPUT: true; the input reads as it did. -/
def reelReadsSpec : ChangeSpec := { name := "reelReads", fn := fun _ => fun
  | [d1, d2] => { results := [.lit (.bool true)], args := [d1, d2] }
  | _ => none }
def reelReadsRow : OpenClaim := { program := "ytidhjgcegcfmeaa", sum := "ba2c7737e06586c07211bb7665d516e741235164bfa7d75393f4340043e026a6", func := "zoetrope/zoetropelaw07.ReelReads", spec := "reelReads", apart := false }
def ReelReadsSaid : Prop := reelReadsRow.holds Try.pinned (OpenSpec.ofChange reelReadsSpec)

/-- ITS FALSE NEIGHBOUR: 'it returns false'. Refute it at one input. -/
def reelReadsWrong : ChangeSpec := { name := "reelReads", fn := fun _ => fun
  | [d1, d2] => { results := [.lit (.bool false)], args := [d1, d2] }
  | _ => none }
def ReelReadsWrongFalsely : Prop := reelReadsRow.holds Try.pinned (OpenSpec.ofChange reelReadsWrong)

/-- 'zoetropelaw07.ReelNil': WHATEVER THE INPUT: true; the input reads as it did. -/
def reelNilSpec : ChangeSpec := { name := "reelNil", fn := fun _ => fun
  | [d1, d2] => { results := [.lit (.bool true)], args := [d1, d2] }
  | _ => none }
def reelNilRow : OpenClaim := { program := "ytidhjgcegcfmeaa", sum := "ba2c7737e06586c07211bb7665d516e741235164bfa7d75393f4340043e026a6", func := "zoetrope/zoetropelaw07.ReelNil", spec := "reelNil", apart := false }
def ReelNilSaid : Prop := reelNilRow.holds Try.pinned (OpenSpec.ofChange reelNilSpec)

/-- ITS FALSE NEIGHBOUR: 'it returns false'. Refute it at one input. -/
def reelNilWrong : ChangeSpec := { name := "reelNil", fn := fun _ => fun
  | [d1, d2] => { results := [.lit (.bool false)], args := [d1, d2] }
  | _ => none }
def ReelNilWrongFalsely : Prop := reelNilRow.holds Try.pinned (OpenSpec.ofChange reelNilWrong)

/-- 'zoetropelaw07.ReelBack': WHATEVER THE INPUT: true; the input reads as it did. -/
def reelBackSpec : ChangeSpec := { name := "reelBack", fn := fun _ => fun
  | [d] => { results := [.lit (.bool true)], args := [d] }
  | _ => none }
def reelBackRow : OpenClaim := { program := "ytidhjgcegcfmeaa", sum := "ba2c7737e06586c07211bb7665d516e741235164bfa7d75393f4340043e026a6", func := "zoetrope/zoetropelaw07.ReelBack", spec := "reelBack", apart := false }
def ReelBackSaid : Prop := reelBackRow.holds Try.pinned (OpenSpec.ofChange reelBackSpec)

/-- ITS FALSE NEIGHBOUR: 'it returns false'. Refute it at one input. -/
def reelBackWrong : ChangeSpec := { name := "reelBack", fn := fun _ => fun
  | [d] => { results := [.lit (.bool false)], args := [d] }
  | _ => none }
def ReelBackWrongFalsely : Prop := reelBackRow.holds Try.pinned (OpenSpec.ofChange reelBackWrong)

/- THE SECOND FORM. 'bulk': how many values and letters a reading holds, each counted each time it is reached (what is shared counts as often as it is met; a slice's spare places count too). A statement '..UptoSaid' is the law's where the arguments, and the package variables that the reading takes, are together of bulk at most 1048576: NARROWER than '..Said'. Prove '..Said' where nothing that the law and all that it calls make is longer than what came in: it says more and counts as full. Else prove '..UptoSaid'. A law counts once. -/
mutual
def uptoBulk {H : Type} : DataW H → Nat
  | .lit (.string bytes) => bytes.length + 1
  | .lit _ => 1
  | .nil => 1
  | .ptr d => uptoBulk d + 1
  | .slice elems spare => uptoBulkAll elems + uptoBulkAll spare + 1
  | .agg parts => uptoBulkAll parts + 1
  | .iface _ d => uptoBulk d + 1
  | .map entries => uptoBulkEntries entries + 1
  | .held _ => 1
def uptoBulkAll {H : Type} : List (DataW H) → Nat
  | [] => 0
  | d :: r => uptoBulk d + uptoBulkAll r
def uptoBulkEntries {H : Type} : List (Lit × DataW H) → Nat
  | [] => 0
  | x :: r => uptoBulkEntry x + uptoBulkEntries r
def uptoBulkEntry {H : Type} : Lit × DataW H → Nat
  | (.string bytes, d) => bytes.length + uptoBulk d + 1
  | (_, d) => uptoBulk d + 1
 end
def uptoSmall : (H : Type) → List (DataW H) → Bool := fun _ ds => decide (uptoBulkAll ds ≤ 1048576)
def OpenSpec.upto (s : _root_.Go.ChangeSpec) : _root_.Go.OpenSpec := { _root_.Go.OpenSpec.ofChange s with cond := some uptoSmall }

/-- 'zoetropelaw07.ReelLays', WHERE WHAT IT READS IS OF BULK AT MOST 1048576: true; the input reads as it did. -/
def reelLaysUptoRow : OpenClaim := { program := "ytidhjgcegcfmeaa", sum := "ba2c7737e06586c07211bb7665d516e741235164bfa7d75393f4340043e026a6", func := "zoetrope/zoetropelaw07.ReelLays", spec := "reelLays", apart := false, narrowed := true }
def ReelLaysUptoSaid : Prop := reelLaysUptoRow.holds Try.pinned (OpenSpec.upto reelLaysSpec)

/-- 'zoetropelaw07.ReelReads', WHERE WHAT IT READS IS OF BULK AT MOST 1048576: true; the input reads as it did. -/
def reelReadsUptoRow : OpenClaim := { program := "ytidhjgcegcfmeaa", sum := "ba2c7737e06586c07211bb7665d516e741235164bfa7d75393f4340043e026a6", func := "zoetrope/zoetropelaw07.ReelReads", spec := "reelReads", apart := false, narrowed := true }
def ReelReadsUptoSaid : Prop := reelReadsUptoRow.holds Try.pinned (OpenSpec.upto reelReadsSpec)

/-- 'zoetropelaw07.ReelNil', WHERE WHAT IT READS IS OF BULK AT MOST 1048576: true; the input reads as it did. -/
def reelNilUptoRow : OpenClaim := { program := "ytidhjgcegcfmeaa", sum := "ba2c7737e06586c07211bb7665d516e741235164bfa7d75393f4340043e026a6", func := "zoetrope/zoetropelaw07.ReelNil", spec := "reelNil", apart := false, narrowed := true }
def ReelNilUptoSaid : Prop := reelNilUptoRow.holds Try.pinned (OpenSpec.upto reelNilSpec)

/-- 'zoetropelaw07.ReelBack', WHERE WHAT IT READS IS OF BULK AT MOST 1048576: true; the input reads as it did. -/
def reelBackUptoRow : OpenClaim := { program := "ytidhjgcegcfmeaa", sum := "ba2c7737e06586c07211bb7665d516e741235164bfa7d75393f4340043e026a6", func := "zoetrope/zoetropelaw07.ReelBack", spec := "reelBack", apart := false, narrowed := true }
def ReelBackUptoSaid : Prop := reelBackUptoRow.holds Try.pinned (OpenSpec.upto reelBackSpec)

end Rows
end Go.Proofs.Ytidhjgcegcfmeaa
