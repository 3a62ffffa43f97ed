/-
  No cell of these rows narrows 'for every input' (looked for: loops, veiled, ifaces, maps, wideKeys, modest, calm, conditions, laid).
  DERIVED. THE GIVEN ROWS OF THIS SEAT. 8 by the template 'for every input the law returns true; each argument reads behind the call as it read before'; 0 by the template 'total and deterministic' (their statements: YtpjgeleglmjkfaaTotals.lean).
  GIVEN WITH THE SEED: the statements are not yours to turn. If you find one false, say at which input.
  Laid BY PROGRAM, IN A SANDBOX (cutbox-rows.mjs): the forced cells as the released guide's own fill.sh prints them over the translation a0387e0cf3a98bc6… (all of the seat's roots in one cut). By AI agents, Wed Nov 11 2026. No macro, syntax, notation, axiom, sorry.
-/
import Derived.Test.YtpjgeleglmjkfaaChecked
import GoSem.Claim
import GoSem.ClaimJoined
import GoSem.ClaimMapViews
import Derived.JoinedTies
import Derived.KernelRfl
namespace Go.Proofs.Ytpjgeleglmjkfaa
/- THE CELL 'sum', in the pinned program and in every row, IS THE sha256 OF THE DUMP (.gsa) THAT YtpjgeleglmjkfaaProg.lean LOADS. Nothing in Lean hashes anything: it is a label: what it is worth is what the hold of that sum in a sandbox is worth. -/
noncomputable def Try.pinned : Pinned := { name := "ytpjgeleglmjkfaa", sum := "a0387e0cf3a98bc6506ca59a4c1ab0313157ebcdff3146c5d6c508a45697d98b", checked := Try.checked }
namespace Rows
def none {H : Type} : Left H := { results := [], args := [] }

/-- 'zoetropelaw04.DiceHashes': WHATEVER THE INPUT: true; the input reads as it did. -/
def diceHashesSpec : ChangeSpec := { name := "diceHashes", fn := fun _ => fun
  | [d] => { results := [.lit (.bool true)], args := [d] }
  | _ => none }
def diceHashesRow : OpenClaim := { program := "ytpjgeleglmjkfaa", sum := "a0387e0cf3a98bc6506ca59a4c1ab0313157ebcdff3146c5d6c508a45697d98b", func := "zoetrope/zoetropelaw04.DiceHashes", spec := "diceHashes", apart := false }
def DiceHashesSaid : Prop := diceHashesRow.holds Try.pinned (OpenSpec.ofChange diceHashesSpec)

/-- ITS FALSE NEIGHBOUR: 'it returns false'. Refute it at one input. -/
def diceHashesWrong : ChangeSpec := { name := "diceHashes", fn := fun _ => fun
  | [d] => { results := [.lit (.bool false)], args := [d] }
  | _ => none }
def DiceHashesWrongFalsely : Prop := diceHashesRow.holds Try.pinned (OpenSpec.ofChange diceHashesWrong)

/-- 'zoetropelaw29.PackPresses': WHATEVER THE INPUT: true; the input reads as it did. -/
def packPressesSpec : ChangeSpec := { name := "packPresses", fn := fun _ => fun
  | [d] => { results := [.lit (.bool true)], args := [d] }
  | _ => none }
def packPressesRow : OpenClaim := { program := "ytpjgeleglmjkfaa", sum := "a0387e0cf3a98bc6506ca59a4c1ab0313157ebcdff3146c5d6c508a45697d98b", func := "zoetrope/zoetropelaw29.PackPresses", spec := "packPresses", apart := false }
def PackPressesSaid : Prop := packPressesRow.holds Try.pinned (OpenSpec.ofChange packPressesSpec)

/-- ITS FALSE NEIGHBOUR: 'it returns false'. Refute it at one input. -/
def packPressesWrong : ChangeSpec := { name := "packPresses", fn := fun _ => fun
  | [d] => { results := [.lit (.bool false)], args := [d] }
  | _ => none }
def PackPressesWrongFalsely : Prop := packPressesRow.holds Try.pinned (OpenSpec.ofChange packPressesWrong)

/-- 'zoetropelaw29.PackWorst': WHATEVER THE INPUT: true; the input reads as it did. -/
def packWorstSpec : ChangeSpec := { name := "packWorst", fn := fun _ => fun
  | [d] => { results := [.lit (.bool true)], args := [d] }
  | _ => none }
def packWorstRow : OpenClaim := { program := "ytpjgeleglmjkfaa", sum := "a0387e0cf3a98bc6506ca59a4c1ab0313157ebcdff3146c5d6c508a45697d98b", func := "zoetrope/zoetropelaw29.PackWorst", spec := "packWorst", apart := false }
def PackWorstSaid : Prop := packWorstRow.holds Try.pinned (OpenSpec.ofChange packWorstSpec)

/-- ITS FALSE NEIGHBOUR: 'it returns false'. Refute it at one input. -/
def packWorstWrong : ChangeSpec := { name := "packWorst", fn := fun _ => fun
  | [d] => { results := [.lit (.bool false)], args := [d] }
  | _ => none }
def PackWorstWrongFalsely : Prop := packWorstRow.holds Try.pinned (OpenSpec.ofChange packWorstWrong)

/-- 'zoetropelaw04.DiceDraws': WHATEVER THE INPUT: true; the input reads as it did. -/
def diceDrawsSpec : ChangeSpec := { name := "diceDraws", fn := fun _ => fun
  | [d1, d2, d3] => { results := [.lit (.bool true)], args := [d1, d2, d3] }
  | _ => none }
def diceDrawsRow : OpenClaim := { program := "ytpjgeleglmjkfaa", sum := "a0387e0cf3a98bc6506ca59a4c1ab0313157ebcdff3146c5d6c508a45697d98b", func := "zoetrope/zoetropelaw04.DiceDraws", spec := "diceDraws", apart := false }
def DiceDrawsSaid : Prop := diceDrawsRow.holds Try.pinned (OpenSpec.ofChange diceDrawsSpec)

/-- ITS FALSE NEIGHBOUR: 'it returns false'. Refute it at one input. -/
def diceDrawsWrong : ChangeSpec := { name := "diceDraws", fn := fun _ => fun
  | [d1, d2, d3] => { results := [.lit (.bool false)], args := [d1, d2, d3] }
  | _ => none }
def DiceDrawsWrongFalsely : Prop := diceDrawsRow.holds Try.pinned (OpenSpec.ofChange diceDrawsWrong)

/-- 'zoetropelaw04.DiceGoes': WHATEVER THE INPUT: true; the input reads as it did. -/
def diceGoesSpec : ChangeSpec := { name := "diceGoes", fn := fun _ => fun
  | [d1, d2] => { results := [.lit (.bool true)], args := [d1, d2] }
  | _ => none }
def diceGoesRow : OpenClaim := { program := "ytpjgeleglmjkfaa", sum := "a0387e0cf3a98bc6506ca59a4c1ab0313157ebcdff3146c5d6c508a45697d98b", func := "zoetrope/zoetropelaw04.DiceGoes", spec := "diceGoes", apart := false }
def DiceGoesSaid : Prop := diceGoesRow.holds Try.pinned (OpenSpec.ofChange diceGoesSpec)

/-- ITS FALSE NEIGHBOUR: 'it returns false'. Refute it at one input. -/
def diceGoesWrong : ChangeSpec := { name := "diceGoes", fn := fun _ => fun
  | [d1, d2] => { results := [.lit (.bool false)], args := [d1, d2] }
  | _ => none }
def DiceGoesWrongFalsely : Prop := diceGoesRow.holds Try.pinned (OpenSpec.ofChange diceGoesWrong)

/-- 'zoetropelaw29.PackBack': WHATEVER THE INPUT: true; the input reads as it did. -/
def packBackSpec : ChangeSpec := { name := "packBack", fn := fun _ => fun
  | [d1, d2] => { results := [.lit (.bool true)], args := [d1, d2] }
  | _ => none }
def packBackRow : OpenClaim := { program := "ytpjgeleglmjkfaa", sum := "a0387e0cf3a98bc6506ca59a4c1ab0313157ebcdff3146c5d6c508a45697d98b", func := "zoetrope/zoetropelaw29.PackBack", spec := "packBack", apart := false }
def PackBackSaid : Prop := packBackRow.holds Try.pinned (OpenSpec.ofChange packBackSpec)

/-- ITS FALSE NEIGHBOUR: 'it returns false'. Refute it at one input. -/
def packBackWrong : ChangeSpec := { name := "packBack", fn := fun _ => fun
  | [d1, d2] => { results := [.lit (.bool false)], args := [d1, d2] }
  | _ => none }
def PackBackWrongFalsely : Prop := packBackRow.holds Try.pinned (OpenSpec.ofChange packBackWrong)

/-- 'zoetropelaw29.PackSpreads': WHATEVER THE INPUT: true; the input reads as it did. -/
def packSpreadsSpec : ChangeSpec := { name := "packSpreads", fn := fun _ => fun
  | [d1, d2] => { results := [.lit (.bool true)], args := [d1, d2] }
  | _ => none }
def packSpreadsRow : OpenClaim := { program := "ytpjgeleglmjkfaa", sum := "a0387e0cf3a98bc6506ca59a4c1ab0313157ebcdff3146c5d6c508a45697d98b", func := "zoetrope/zoetropelaw29.PackSpreads", spec := "packSpreads", apart := false }
def PackSpreadsSaid : Prop := packSpreadsRow.holds Try.pinned (OpenSpec.ofChange packSpreadsSpec)

/-- ITS FALSE NEIGHBOUR: 'it returns false'. Refute it at one input. -/
def packSpreadsWrong : ChangeSpec := { name := "packSpreads", fn := fun _ => fun
  | [d1, d2] => { results := [.lit (.bool false)], args := [d1, d2] }
  | _ => none }
def PackSpreadsWrongFalsely : Prop := packSpreadsRow.holds Try.pinned (OpenSpec.ofChange packSpreadsWrong)

/-- 'zoetropelaw04.DiceDomes': WHATEVER THE INPUT: true; the input reads as it did. -/
def diceDomesSpec : ChangeSpec := { name := "diceDomes", fn := fun _ => fun
  | [d1, d2, d3] => { results := [.lit (.bool true)], args := [d1, d2, d3] }
  | _ => none }
def diceDomesRow : OpenClaim := { program := "ytpjgeleglmjkfaa", sum := "a0387e0cf3a98bc6506ca59a4c1ab0313157ebcdff3146c5d6c508a45697d98b", func := "zoetrope/zoetropelaw04.DiceDomes", spec := "diceDomes", unfollowed := true, recurses := true, apart := false }
def DiceDomesSaid : Prop := diceDomesRow.holds Try.pinned (OpenSpec.ofChange diceDomesSpec)

/-- ITS FALSE NEIGHBOUR: 'it returns false'. Refute it at one input. -/
def diceDomesWrong : ChangeSpec := { name := "diceDomes", fn := fun _ => fun
  | [d1, d2, d3] => { results := [.lit (.bool false)], args := [d1, d2, d3] }
  | _ => none }
def DiceDomesWrongFalsely : Prop := diceDomesRow.holds Try.pinned (OpenSpec.ofChange diceDomesWrong)

/- THE SECOND FORM. 'bulk': how many values and letters a reading holds, each counted each time it is reached (what is shared counts as often as it is met; a slice's spare places count too). A statement '..UptoSaid' is the law's where the arguments, and the package variables that the reading takes, are together of bulk at most 1048576: NARROWER than '..Said'. Prove '..Said' where nothing that the law and all that it calls make is longer than what came in: it says more and counts as full. Else prove '..UptoSaid'. A law counts once. -/
mutual
def uptoBulk {H : Type} : DataW H → Nat
  | .lit (.string bytes) => bytes.length + 1
  | .lit _ => 1
  | .nil => 1
  | .ptr d => uptoBulk d + 1
  | .slice elems spare => uptoBulkAll elems + uptoBulkAll spare + 1
  | .agg parts => uptoBulkAll parts + 1
  | .iface _ d => uptoBulk d + 1
  | .map entries => uptoBulkEntries entries + 1
  | .held _ => 1
def uptoBulkAll {H : Type} : List (DataW H) → Nat
  | [] => 0
  | d :: r => uptoBulk d + uptoBulkAll r
def uptoBulkEntries {H : Type} : List (Lit × DataW H) → Nat
  | [] => 0
  | x :: r => uptoBulkEntry x + uptoBulkEntries r
def uptoBulkEntry {H : Type} : Lit × DataW H → Nat
  | (.string bytes, d) => bytes.length + uptoBulk d + 1
  | (_, d) => uptoBulk d + 1
 end
def uptoSmall : (H : Type) → List (DataW H) → Bool := fun _ ds => decide (uptoBulkAll ds ≤ 1048576)
def OpenSpec.upto (s : _root_.Go.ChangeSpec) : _root_.Go.OpenSpec := { _root_.Go.OpenSpec.ofChange s with cond := some uptoSmall }

/-- 'zoetropelaw04.DiceHashes', WHERE WHAT IT READS IS OF BULK AT MOST 1048576: true; the input reads as it did. -/
def diceHashesUptoRow : OpenClaim := { program := "ytpjgeleglmjkfaa", sum := "a0387e0cf3a98bc6506ca59a4c1ab0313157ebcdff3146c5d6c508a45697d98b", func := "zoetrope/zoetropelaw04.DiceHashes", spec := "diceHashes", apart := false, narrowed := true }
def DiceHashesUptoSaid : Prop := diceHashesUptoRow.holds Try.pinned (OpenSpec.upto diceHashesSpec)

/-- 'zoetropelaw29.PackPresses', WHERE WHAT IT READS IS OF BULK AT MOST 1048576: true; the input reads as it did. -/
def packPressesUptoRow : OpenClaim := { program := "ytpjgeleglmjkfaa", sum := "a0387e0cf3a98bc6506ca59a4c1ab0313157ebcdff3146c5d6c508a45697d98b", func := "zoetrope/zoetropelaw29.PackPresses", spec := "packPresses", apart := false, narrowed := true }
def PackPressesUptoSaid : Prop := packPressesUptoRow.holds Try.pinned (OpenSpec.upto packPressesSpec)

/-- 'zoetropelaw29.PackWorst', WHERE WHAT IT READS IS OF BULK AT MOST 1048576: true; the input reads as it did. -/
def packWorstUptoRow : OpenClaim := { program := "ytpjgeleglmjkfaa", sum := "a0387e0cf3a98bc6506ca59a4c1ab0313157ebcdff3146c5d6c508a45697d98b", func := "zoetrope/zoetropelaw29.PackWorst", spec := "packWorst", apart := false, narrowed := true }
def PackWorstUptoSaid : Prop := packWorstUptoRow.holds Try.pinned (OpenSpec.upto packWorstSpec)

/-- 'zoetropelaw04.DiceDraws', WHERE WHAT IT READS IS OF BULK AT MOST 1048576: true; the input reads as it did. -/
def diceDrawsUptoRow : OpenClaim := { program := "ytpjgeleglmjkfaa", sum := "a0387e0cf3a98bc6506ca59a4c1ab0313157ebcdff3146c5d6c508a45697d98b", func := "zoetrope/zoetropelaw04.DiceDraws", spec := "diceDraws", apart := false, narrowed := true }
def DiceDrawsUptoSaid : Prop := diceDrawsUptoRow.holds Try.pinned (OpenSpec.upto diceDrawsSpec)

/-- 'zoetropelaw04.DiceGoes', WHERE WHAT IT READS IS OF BULK AT MOST 1048576: true; the input reads as it did. -/
def diceGoesUptoRow : OpenClaim := { program := "ytpjgeleglmjkfaa", sum := "a0387e0cf3a98bc6506ca59a4c1ab0313157ebcdff3146c5d6c508a45697d98b", func := "zoetrope/zoetropelaw04.DiceGoes", spec := "diceGoes", apart := false, narrowed := true }
def DiceGoesUptoSaid : Prop := diceGoesUptoRow.holds Try.pinned (OpenSpec.upto diceGoesSpec)

/-- 'zoetropelaw29.PackBack', WHERE WHAT IT READS IS OF BULK AT MOST 1048576: true; the input reads as it did. -/
def packBackUptoRow : OpenClaim := { program := "ytpjgeleglmjkfaa", sum := "a0387e0cf3a98bc6506ca59a4c1ab0313157ebcdff3146c5d6c508a45697d98b", func := "zoetrope/zoetropelaw29.PackBack", spec := "packBack", apart := false, narrowed := true }
def PackBackUptoSaid : Prop := packBackUptoRow.holds Try.pinned (OpenSpec.upto packBackSpec)

/-- 'zoetropelaw29.PackSpreads', WHERE WHAT IT READS IS OF BULK AT MOST 1048576: true; the input reads as it did. -/
def packSpreadsUptoRow : OpenClaim := { program := "ytpjgeleglmjkfaa", sum := "a0387e0cf3a98bc6506ca59a4c1ab0313157ebcdff3146c5d6c508a45697d98b", func := "zoetrope/zoetropelaw29.PackSpreads", spec := "packSpreads", apart := false, narrowed := true }
def PackSpreadsUptoSaid : Prop := packSpreadsUptoRow.holds Try.pinned (OpenSpec.upto packSpreadsSpec)

/-- 'zoetropelaw04.DiceDomes', WHERE WHAT IT READS IS OF BULK AT MOST 1048576: true; the input reads as it did. -/
def diceDomesUptoRow : OpenClaim := { program := "ytpjgeleglmjkfaa", sum := "a0387e0cf3a98bc6506ca59a4c1ab0313157ebcdff3146c5d6c508a45697d98b", func := "zoetrope/zoetropelaw04.DiceDomes", spec := "diceDomes", unfollowed := true, recurses := true, apart := false, narrowed := true }
def DiceDomesUptoSaid : Prop := diceDomesUptoRow.holds Try.pinned (OpenSpec.upto diceDomesSpec)

end Rows
end Go.Proofs.Ytpjgeleglmjkfaa
