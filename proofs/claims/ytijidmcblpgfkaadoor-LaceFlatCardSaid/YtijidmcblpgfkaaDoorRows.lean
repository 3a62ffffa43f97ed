/-
  NARROWER THAN 'FOR EVERY INPUT', by the rows' own cells (each row's printed sentence says how): LaceLevels: laid · LaceSmooths: laid · LaceFlat: laid.
  DERIVED. THE GIVEN ROWS OF THIS SEAT. 3 by the template 'for every input the law returns true; each argument reads behind the call as it read before'; 0 by the template 'total and deterministic' (their statements: YtijidmcblpgfkaaDoorTotals.lean).
  GIVEN WITH THE SEED: the statements are not yours to turn. If you find one false, say at which input.
  Laid BY PROGRAM, IN A SANDBOX (cutbox-rows.mjs): the forced cells as the released guide's own fill.sh prints them over the translation af9c980997ac500d… (all of the seat's roots in one cut). By AI agents, Wed Nov 11 2026. No macro, syntax, notation, axiom, sorry.
-/
import Derived.Test.YtijidmcblpgfkaaDoorChecked
import GoSem.Claim
import GoSem.ClaimJoined
import GoSem.ClaimMapViews
import Derived.JoinedTies
import Derived.KernelRfl
namespace Go.Proofs.YtijidmcblpgfkaaDoor
/- THE CELL 'sum', in the pinned program and in every row, IS THE sha256 OF THE DUMP (.gsa) THAT YtijidmcblpgfkaaDoorProg.lean LOADS. Nothing in Lean hashes anything: it is a label: what it is worth is what the hold of that sum in a sandbox is worth. -/
noncomputable def Tryd.pinned : Pinned := { name := "ytijidmcblpgfkaadoor", sum := "af9c980997ac500d8a8b05a766f9a71b7772e2c67ce4943ad73cf66d89f31919", checked := Tryd.checked }
namespace Rows
def none {H : Type} : Left H := { results := [], args := [] }

/- WHAT THE LISTED PACKAGE-LEVEL VARIABLES READ AS WHEN THE CALL BEGINS. Each datum BY PROGRAM (the guide's laid-datum.mjs) off the statement by which the dump's own 'gosem.cut.vars' lays the variable. In a bare row this is a premise. The card (YtijidmcblpgfkaaDoorCards.lean) ties it to the program's text. -/
def laid_zoetrope_lace_taps {H : Type} : DataW H := .agg [.lit (.int .i64 6), .lit (.int .i64 4), .lit (.int .i64 1)]

/-- 'zoetropelaw20.LaceLevels': WHATEVER THE INPUT: true; the input reads as it did. -/
def laceLevelsSpec : ChangeSpec := { name := "laceLevels", fn := fun _ => fun
  | [d1, d2, d3] => { results := [.lit (.bool true)], args := [d1, d2, d3] }
  | _ => none }
def laceLevelsRow : OpenClaim := { program := "ytijidmcblpgfkaadoor", sum := "af9c980997ac500d8a8b05a766f9a71b7772e2c67ce4943ad73cf66d89f31919", func := "zoetrope/zoetropelaw20.LaceLevels", spec := "laceLevels", unfollowed := true, recurses := true, named := ["zoetrope/lace.taps"], apart := false, laid := [("zoetrope/lace.taps", laid_zoetrope_lace_taps)] }
def LaceLevelsSaid : Prop := laceLevelsRow.holds Tryd.pinned (OpenSpec.ofChange laceLevelsSpec)

/-- ITS FALSE NEIGHBOUR: 'it returns false'. Refute it at one input. -/
def laceLevelsWrong : ChangeSpec := { name := "laceLevels", fn := fun _ => fun
  | [d1, d2, d3] => { results := [.lit (.bool false)], args := [d1, d2, d3] }
  | _ => none }
def LaceLevelsWrongFalsely : Prop := laceLevelsRow.holds Tryd.pinned (OpenSpec.ofChange laceLevelsWrong)

/-- 'zoetropelaw20.LaceSmooths': WHATEVER THE INPUT: true; the input reads as it did. -/
def laceSmoothsSpec : ChangeSpec := { name := "laceSmooths", fn := fun _ => fun
  | [d1, d2] => { results := [.lit (.bool true)], args := [d1, d2] }
  | _ => none }
def laceSmoothsRow : OpenClaim := { program := "ytijidmcblpgfkaadoor", sum := "af9c980997ac500d8a8b05a766f9a71b7772e2c67ce4943ad73cf66d89f31919", func := "zoetrope/zoetropelaw20.LaceSmooths", spec := "laceSmooths", unfollowed := true, recurses := true, named := ["zoetrope/lace.taps"], apart := false, laid := [("zoetrope/lace.taps", laid_zoetrope_lace_taps)] }
def LaceSmoothsSaid : Prop := laceSmoothsRow.holds Tryd.pinned (OpenSpec.ofChange laceSmoothsSpec)

/-- ITS FALSE NEIGHBOUR: 'it returns false'. Refute it at one input. -/
def laceSmoothsWrong : ChangeSpec := { name := "laceSmooths", fn := fun _ => fun
  | [d1, d2] => { results := [.lit (.bool false)], args := [d1, d2] }
  | _ => none }
def LaceSmoothsWrongFalsely : Prop := laceSmoothsRow.holds Tryd.pinned (OpenSpec.ofChange laceSmoothsWrong)

/-- 'zoetropelaw20.LaceFlat': WHATEVER THE INPUT: true; the input reads as it did. -/
def laceFlatSpec : ChangeSpec := { name := "laceFlat", fn := fun _ => fun
  | [d1, d2] => { results := [.lit (.bool true)], args := [d1, d2] }
  | _ => none }
def laceFlatRow : OpenClaim := { program := "ytijidmcblpgfkaadoor", sum := "af9c980997ac500d8a8b05a766f9a71b7772e2c67ce4943ad73cf66d89f31919", func := "zoetrope/zoetropelaw20.LaceFlat", spec := "laceFlat", unfollowed := true, recurses := true, named := ["zoetrope/lace.taps"], apart := false, laid := [("zoetrope/lace.taps", laid_zoetrope_lace_taps)] }
def LaceFlatSaid : Prop := laceFlatRow.holds Tryd.pinned (OpenSpec.ofChange laceFlatSpec)

/-- ITS FALSE NEIGHBOUR: 'it returns false'. Refute it at one input. -/
def laceFlatWrong : ChangeSpec := { name := "laceFlat", fn := fun _ => fun
  | [d1, d2] => { results := [.lit (.bool false)], args := [d1, d2] }
  | _ => none }
def LaceFlatWrongFalsely : Prop := laceFlatRow.holds Tryd.pinned (OpenSpec.ofChange laceFlatWrong)

/- THE SECOND FORM. 'bulk': how many values and letters a reading holds, each counted each time it is reached (what is shared counts as often as it is met; a slice's spare places count too). A statement '..UptoSaid' is the law's where the arguments, and the package variables that the reading takes, are together of bulk at most 1048576: NARROWER than '..Said'. Prove '..Said' where nothing that the law and all that it calls make is longer than what came in: it says more and counts as full. Else prove '..UptoSaid'. A law counts once. -/
mutual
def uptoBulk {H : Type} : DataW H → Nat
  | .lit (.string bytes) => bytes.length + 1
  | .lit _ => 1
  | .nil => 1
  | .ptr d => uptoBulk d + 1
  | .slice elems spare => uptoBulkAll elems + uptoBulkAll spare + 1
  | .agg parts => uptoBulkAll parts + 1
  | .iface _ d => uptoBulk d + 1
  | .map entries => uptoBulkEntries entries + 1
  | .held _ => 1
def uptoBulkAll {H : Type} : List (DataW H) → Nat
  | [] => 0
  | d :: r => uptoBulk d + uptoBulkAll r
def uptoBulkEntries {H : Type} : List (Lit × DataW H) → Nat
  | [] => 0
  | x :: r => uptoBulkEntry x + uptoBulkEntries r
def uptoBulkEntry {H : Type} : Lit × DataW H → Nat
  | (.string bytes, d) => bytes.length + uptoBulk d + 1
  | (_, d) => uptoBulk d + 1
 end
def uptoSmall : (H : Type) → List (DataW H) → Bool := fun _ ds => decide (uptoBulkAll ds ≤ 1048576)
def OpenSpec.upto (s : _root_.Go.ChangeSpec) : _root_.Go.OpenSpec := { _root_.Go.OpenSpec.ofChange s with cond := some uptoSmall }

/-- 'zoetropelaw20.LaceLevels', WHERE WHAT IT READS IS OF BULK AT MOST 1048576: true; the input reads as it did. -/
def laceLevelsUptoRow : OpenClaim := { program := "ytijidmcblpgfkaadoor", sum := "af9c980997ac500d8a8b05a766f9a71b7772e2c67ce4943ad73cf66d89f31919", func := "zoetrope/zoetropelaw20.LaceLevels", spec := "laceLevels", unfollowed := true, recurses := true, named := ["zoetrope/lace.taps"], apart := false, laid := [("zoetrope/lace.taps", laid_zoetrope_lace_taps)], narrowed := true }
def LaceLevelsUptoSaid : Prop := laceLevelsUptoRow.holds Tryd.pinned (OpenSpec.upto laceLevelsSpec)

/-- 'zoetropelaw20.LaceSmooths', WHERE WHAT IT READS IS OF BULK AT MOST 1048576: true; the input reads as it did. -/
def laceSmoothsUptoRow : OpenClaim := { program := "ytijidmcblpgfkaadoor", sum := "af9c980997ac500d8a8b05a766f9a71b7772e2c67ce4943ad73cf66d89f31919", func := "zoetrope/zoetropelaw20.LaceSmooths", spec := "laceSmooths", unfollowed := true, recurses := true, named := ["zoetrope/lace.taps"], apart := false, laid := [("zoetrope/lace.taps", laid_zoetrope_lace_taps)], narrowed := true }
def LaceSmoothsUptoSaid : Prop := laceSmoothsUptoRow.holds Tryd.pinned (OpenSpec.upto laceSmoothsSpec)

/-- 'zoetropelaw20.LaceFlat', WHERE WHAT IT READS IS OF BULK AT MOST 1048576: true; the input reads as it did. -/
def laceFlatUptoRow : OpenClaim := { program := "ytijidmcblpgfkaadoor", sum := "af9c980997ac500d8a8b05a766f9a71b7772e2c67ce4943ad73cf66d89f31919", func := "zoetrope/zoetropelaw20.LaceFlat", spec := "laceFlat", unfollowed := true, recurses := true, named := ["zoetrope/lace.taps"], apart := false, laid := [("zoetrope/lace.taps", laid_zoetrope_lace_taps)], narrowed := true }
def LaceFlatUptoSaid : Prop := laceFlatUptoRow.holds Tryd.pinned (OpenSpec.upto laceFlatSpec)

end Rows
end Go.Proofs.YtijidmcblpgfkaaDoor
