/-
  No cell of these rows narrows 'for every input' (looked for: loops, veiled, ifaces, maps, wideKeys, modest, calm, conditions, laid).
  DERIVED. THE GIVEN ROWS OF THIS SEAT. 7 by the template 'for every input the law returns true; each argument reads behind the call as it read before'; 0 by the template 'total and deterministic' (their statements: YtcpbiijegbbafaaTotals.lean).
  GIVEN WITH THE SEED: the statements are not yours to turn. If you find one false, say at which input.
  Laid BY PROGRAM, IN A SANDBOX (cutbox-rows.mjs): the forced cells as the released guide's own fill.sh prints them over the translation c43a615b9eeb3753… (all of the seat's roots in one cut). By AI agents, Wed Nov 11 2026. No macro, syntax, notation, axiom, sorry.
-/
import Derived.Test.YtcpbiijegbbafaaChecked
import GoSem.Claim
import GoSem.ClaimJoined
import GoSem.ClaimMapViews
import Derived.JoinedTies
import Derived.KernelRfl
namespace Go.Proofs.Ytcpbiijegbbafaa
/- THE CELL 'sum', in the pinned program and in every row, IS THE sha256 OF THE DUMP (.gsa) THAT YtcpbiijegbbafaaProg.lean LOADS. Nothing in Lean hashes anything: it is a label: what it is worth is what the hold of that sum in a sandbox is worth. -/
noncomputable def Try.pinned : Pinned := { name := "ytcpbiijegbbafaa", sum := "c43a615b9eeb3753e8c07619b3f808c83be615b3f36a411f1d1674fa417ea897", checked := Try.checked }
namespace Rows
def none {H : Type} : Left H := { results := [], args := [] }

/-- 'zoetropelaw09.JobReads': WHATEVER THE INPUT: true; the input reads as it did. -/
def jobReadsSpec : ChangeSpec := { name := "jobReads", fn := fun _ => fun
  | [d] => { results := [.lit (.bool true)], args := [d] }
  | _ => none }
def jobReadsRow : OpenClaim := { program := "ytcpbiijegbbafaa", sum := "c43a615b9eeb3753e8c07619b3f808c83be615b3f36a411f1d1674fa417ea897", func := "zoetrope/zoetropelaw09.JobReads", spec := "jobReads", unfollowed := true, recurses := true, apart := false }
def JobReadsSaid : Prop := jobReadsRow.holds Try.pinned (OpenSpec.ofChange jobReadsSpec)

/-- ITS FALSE NEIGHBOUR: 'it returns false'. Refute it at one input. -/
def jobReadsWrong : ChangeSpec := { name := "jobReads", fn := fun _ => fun
  | [d] => { results := [.lit (.bool false)], args := [d] }
  | _ => none }
def JobReadsWrongFalsely : Prop := jobReadsRow.holds Try.pinned (OpenSpec.ofChange jobReadsWrong)

/-- 'zoetropelaw09.JobWrites': WHATEVER THE INPUT: true; the input reads as it did. -/
def jobWritesSpec : ChangeSpec := { name := "jobWrites", fn := fun _ => fun
  | [d] => { results := [.lit (.bool true)], args := [d] }
  | _ => none }
def jobWritesRow : OpenClaim := { program := "ytcpbiijegbbafaa", sum := "c43a615b9eeb3753e8c07619b3f808c83be615b3f36a411f1d1674fa417ea897", func := "zoetrope/zoetropelaw09.JobWrites", spec := "jobWrites", unfollowed := true, recurses := true, apart := false }
def JobWritesSaid : Prop := jobWritesRow.holds Try.pinned (OpenSpec.ofChange jobWritesSpec)

/-- ITS FALSE NEIGHBOUR: 'it returns false'. Refute it at one input. -/
def jobWritesWrong : ChangeSpec := { name := "jobWrites", fn := fun _ => fun
  | [d] => { results := [.lit (.bool false)], args := [d] }
  | _ => none }
def JobWritesWrongFalsely : Prop := jobWritesRow.holds Try.pinned (OpenSpec.ofChange jobWritesWrong)

/-- 'zoetropelaw09.JobBack': WHATEVER THE INPUT: true; the input reads as it did. -/
def jobBackSpec : ChangeSpec := { name := "jobBack", fn := fun _ => fun
  | [d1, d2] => { results := [.lit (.bool true)], args := [d1, d2] }
  | _ => none }
def jobBackRow : OpenClaim := { program := "ytcpbiijegbbafaa", sum := "c43a615b9eeb3753e8c07619b3f808c83be615b3f36a411f1d1674fa417ea897", func := "zoetrope/zoetropelaw09.JobBack", spec := "jobBack", unfollowed := true, recurses := true, apart := false }
def JobBackSaid : Prop := jobBackRow.holds Try.pinned (OpenSpec.ofChange jobBackSpec)

/-- ITS FALSE NEIGHBOUR: 'it returns false'. Refute it at one input. -/
def jobBackWrong : ChangeSpec := { name := "jobBack", fn := fun _ => fun
  | [d1, d2] => { results := [.lit (.bool false)], args := [d1, d2] }
  | _ => none }
def JobBackWrongFalsely : Prop := jobBackRow.holds Try.pinned (OpenSpec.ofChange jobBackWrong)

/-- 'zoetropelaw09.JobChecks': WHATEVER THE INPUT: true; the input reads as it did. -/
def jobChecksSpec : ChangeSpec := { name := "jobChecks", fn := fun _ => fun
  | [d1, d2] => { results := [.lit (.bool true)], args := [d1, d2] }
  | _ => none }
def jobChecksRow : OpenClaim := { program := "ytcpbiijegbbafaa", sum := "c43a615b9eeb3753e8c07619b3f808c83be615b3f36a411f1d1674fa417ea897", func := "zoetrope/zoetropelaw09.JobChecks", spec := "jobChecks", unfollowed := true, recurses := true, apart := false }
def JobChecksSaid : Prop := jobChecksRow.holds Try.pinned (OpenSpec.ofChange jobChecksSpec)

/-- ITS FALSE NEIGHBOUR: 'it returns false'. Refute it at one input. -/
def jobChecksWrong : ChangeSpec := { name := "jobChecks", fn := fun _ => fun
  | [d1, d2] => { results := [.lit (.bool false)], args := [d1, d2] }
  | _ => none }
def JobChecksWrongFalsely : Prop := jobChecksRow.holds Try.pinned (OpenSpec.ofChange jobChecksWrong)

/-- 'zoetropelaw30.FlickWrites': WHATEVER THE INPUT: true; the input reads as it did. -/
def flickWritesSpec : ChangeSpec := { name := "flickWrites", fn := fun _ => fun
  | [d] => { results := [.lit (.bool true)], args := [d] }
  | _ => none }
def flickWritesRow : OpenClaim := { program := "ytcpbiijegbbafaa", sum := "c43a615b9eeb3753e8c07619b3f808c83be615b3f36a411f1d1674fa417ea897", func := "zoetrope/zoetropelaw30.FlickWrites", spec := "flickWrites", apart := false }
def FlickWritesSaid : Prop := flickWritesRow.holds Try.pinned (OpenSpec.ofChange flickWritesSpec)

/-- ITS FALSE NEIGHBOUR: 'it returns false'. Refute it at one input. -/
def flickWritesWrong : ChangeSpec := { name := "flickWrites", fn := fun _ => fun
  | [d] => { results := [.lit (.bool false)], args := [d] }
  | _ => none }
def FlickWritesWrongFalsely : Prop := flickWritesRow.holds Try.pinned (OpenSpec.ofChange flickWritesWrong)

/-- 'zoetropelaw30.FlickReads': WHATEVER THE INPUT: true; the input reads as it did. -/
def flickReadsSpec : ChangeSpec := { name := "flickReads", fn := fun _ => fun
  | [d] => { results := [.lit (.bool true)], args := [d] }
  | _ => none }
def flickReadsRow : OpenClaim := { program := "ytcpbiijegbbafaa", sum := "c43a615b9eeb3753e8c07619b3f808c83be615b3f36a411f1d1674fa417ea897", func := "zoetrope/zoetropelaw30.FlickReads", spec := "flickReads", apart := false }
def FlickReadsSaid : Prop := flickReadsRow.holds Try.pinned (OpenSpec.ofChange flickReadsSpec)

/-- ITS FALSE NEIGHBOUR: 'it returns false'. Refute it at one input. -/
def flickReadsWrong : ChangeSpec := { name := "flickReads", fn := fun _ => fun
  | [d] => { results := [.lit (.bool false)], args := [d] }
  | _ => none }
def FlickReadsWrongFalsely : Prop := flickReadsRow.holds Try.pinned (OpenSpec.ofChange flickReadsWrong)

/-- 'zoetropelaw30.FlickBack': WHATEVER THE INPUT: true; the input reads as it did. -/
def flickBackSpec : ChangeSpec := { name := "flickBack", fn := fun _ => fun
  | [d] => { results := [.lit (.bool true)], args := [d] }
  | _ => none }
def flickBackRow : OpenClaim := { program := "ytcpbiijegbbafaa", sum := "c43a615b9eeb3753e8c07619b3f808c83be615b3f36a411f1d1674fa417ea897", func := "zoetrope/zoetropelaw30.FlickBack", spec := "flickBack", apart := false }
def FlickBackSaid : Prop := flickBackRow.holds Try.pinned (OpenSpec.ofChange flickBackSpec)

/-- ITS FALSE NEIGHBOUR: 'it returns false'. Refute it at one input. -/
def flickBackWrong : ChangeSpec := { name := "flickBack", fn := fun _ => fun
  | [d] => { results := [.lit (.bool false)], args := [d] }
  | _ => none }
def FlickBackWrongFalsely : Prop := flickBackRow.holds Try.pinned (OpenSpec.ofChange flickBackWrong)

/- THE SECOND FORM. 'bulk': how many values and letters a reading holds, each counted each time it is reached (what is shared counts as often as it is met; a slice's spare places count too). A statement '..UptoSaid' is the law's where the arguments, and the package variables that the reading takes, are together of bulk at most 1048576: NARROWER than '..Said'. Prove '..Said' where nothing that the law and all that it calls make is longer than what came in: it says more and counts as full. Else prove '..UptoSaid'. A law counts once. -/
mutual
def uptoBulk {H : Type} : DataW H → Nat
  | .lit (.string bytes) => bytes.length + 1
  | .lit _ => 1
  | .nil => 1
  | .ptr d => uptoBulk d + 1
  | .slice elems spare => uptoBulkAll elems + uptoBulkAll spare + 1
  | .agg parts => uptoBulkAll parts + 1
  | .iface _ d => uptoBulk d + 1
  | .map entries => uptoBulkEntries entries + 1
  | .held _ => 1
def uptoBulkAll {H : Type} : List (DataW H) → Nat
  | [] => 0
  | d :: r => uptoBulk d + uptoBulkAll r
def uptoBulkEntries {H : Type} : List (Lit × DataW H) → Nat
  | [] => 0
  | x :: r => uptoBulkEntry x + uptoBulkEntries r
def uptoBulkEntry {H : Type} : Lit × DataW H → Nat
  | (.string bytes, d) => bytes.length + uptoBulk d + 1
  | (_, d) => uptoBulk d + 1
 end
def uptoSmall : (H : Type) → List (DataW H) → Bool := fun _ ds => decide (uptoBulkAll ds ≤ 1048576)
def OpenSpec.upto (s : _root_.Go.ChangeSpec) : _root_.Go.OpenSpec := { _root_.Go.OpenSpec.ofChange s with cond := some uptoSmall }

/-- 'zoetropelaw09.JobReads', WHERE WHAT IT READS IS OF BULK AT MOST 1048576: true; the input reads as it did. -/
def jobReadsUptoRow : OpenClaim := { program := "ytcpbiijegbbafaa", sum := "c43a615b9eeb3753e8c07619b3f808c83be615b3f36a411f1d1674fa417ea897", func := "zoetrope/zoetropelaw09.JobReads", spec := "jobReads", unfollowed := true, recurses := true, apart := false, narrowed := true }
def JobReadsUptoSaid : Prop := jobReadsUptoRow.holds Try.pinned (OpenSpec.upto jobReadsSpec)

/-- 'zoetropelaw09.JobWrites', WHERE WHAT IT READS IS OF BULK AT MOST 1048576: true; the input reads as it did. -/
def jobWritesUptoRow : OpenClaim := { program := "ytcpbiijegbbafaa", sum := "c43a615b9eeb3753e8c07619b3f808c83be615b3f36a411f1d1674fa417ea897", func := "zoetrope/zoetropelaw09.JobWrites", spec := "jobWrites", unfollowed := true, recurses := true, apart := false, narrowed := true }
def JobWritesUptoSaid : Prop := jobWritesUptoRow.holds Try.pinned (OpenSpec.upto jobWritesSpec)

/-- 'zoetropelaw09.JobBack', WHERE WHAT IT READS IS OF BULK AT MOST 1048576: true; the input reads as it did. -/
def jobBackUptoRow : OpenClaim := { program := "ytcpbiijegbbafaa", sum := "c43a615b9eeb3753e8c07619b3f808c83be615b3f36a411f1d1674fa417ea897", func := "zoetrope/zoetropelaw09.JobBack", spec := "jobBack", unfollowed := true, recurses := true, apart := false, narrowed := true }
def JobBackUptoSaid : Prop := jobBackUptoRow.holds Try.pinned (OpenSpec.upto jobBackSpec)

/-- 'zoetropelaw09.JobChecks', WHERE WHAT IT READS IS OF BULK AT MOST 1048576: true; the input reads as it did. -/
def jobChecksUptoRow : OpenClaim := { program := "ytcpbiijegbbafaa", sum := "c43a615b9eeb3753e8c07619b3f808c83be615b3f36a411f1d1674fa417ea897", func := "zoetrope/zoetropelaw09.JobChecks", spec := "jobChecks", unfollowed := true, recurses := true, apart := false, narrowed := true }
def JobChecksUptoSaid : Prop := jobChecksUptoRow.holds Try.pinned (OpenSpec.upto jobChecksSpec)

/-- 'zoetropelaw30.FlickWrites', WHERE WHAT IT READS IS OF BULK AT MOST 1048576: true; the input reads as it did. -/
def flickWritesUptoRow : OpenClaim := { program := "ytcpbiijegbbafaa", sum := "c43a615b9eeb3753e8c07619b3f808c83be615b3f36a411f1d1674fa417ea897", func := "zoetrope/zoetropelaw30.FlickWrites", spec := "flickWrites", apart := false, narrowed := true }
def FlickWritesUptoSaid : Prop := flickWritesUptoRow.holds Try.pinned (OpenSpec.upto flickWritesSpec)

/-- 'zoetropelaw30.FlickReads', WHERE WHAT IT READS IS OF BULK AT MOST 1048576: true; the input reads as it did. -/
def flickReadsUptoRow : OpenClaim := { program := "ytcpbiijegbbafaa", sum := "c43a615b9eeb3753e8c07619b3f808c83be615b3f36a411f1d1674fa417ea897", func := "zoetrope/zoetropelaw30.FlickReads", spec := "flickReads", apart := false, narrowed := true }
def FlickReadsUptoSaid : Prop := flickReadsUptoRow.holds Try.pinned (OpenSpec.upto flickReadsSpec)

/-- 'zoetropelaw30.FlickBack', WHERE WHAT IT READS IS OF BULK AT MOST 1048576: true; the input reads as it did. -/
def flickBackUptoRow : OpenClaim := { program := "ytcpbiijegbbafaa", sum := "c43a615b9eeb3753e8c07619b3f808c83be615b3f36a411f1d1674fa417ea897", func := "zoetrope/zoetropelaw30.FlickBack", spec := "flickBack", apart := false, narrowed := true }
def FlickBackUptoSaid : Prop := flickBackUptoRow.holds Try.pinned (OpenSpec.upto flickBackSpec)

end Rows
end Go.Proofs.Ytcpbiijegbbafaa
