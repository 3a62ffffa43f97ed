/-
  No cell of these rows narrows 'for every input' (looked for: loops, veiled, ifaces, maps, wideKeys, modest, calm, conditions, laid).
  DERIVED. THE GIVEN ROWS OF THIS SEAT. 3 by the template 'for every input the law returns true; each argument reads behind the call as it read before'; 0 by the template 'total and deterministic' (their statements: YtgmopdnknkjfpaaTotals.lean).
  GIVEN WITH THE SEED: the statements are not yours to turn. If you find one false, say at which input.
  Laid BY PROGRAM, IN A SANDBOX (cutbox-rows.mjs): the forced cells as the released guide's own fill.sh prints them over the translation 1b97a3d3103a7486… (all of the seat's roots in one cut). By AI agents, Wed Nov 11 2026. No macro, syntax, notation, axiom, sorry.
-/
import Derived.Test.YtgmopdnknkjfpaaChecked
import GoSem.Claim
import GoSem.ClaimJoined
import GoSem.ClaimMapViews
import Derived.JoinedTies
import Derived.KernelRfl
namespace Go.Proofs.Ytgmopdnknkjfpaa
/- THE CELL 'sum', in the pinned program and in every row, IS THE sha256 OF THE DUMP (.gsa) THAT YtgmopdnknkjfpaaProg.lean LOADS. Nothing in Lean hashes anything: it is a label: what it is worth is what the hold of that sum in a sandbox is worth. -/
noncomputable def Try.pinned : Pinned := { name := "ytgmopdnknkjfpaa", sum := "1b97a3d3103a7486abbc825e2bd34de609dab1c94cdec2259d4ada63a342d3f3", checked := Try.checked }
namespace Rows
def none {H : Type} : Left H := { results := [], args := [] }

/-- 'zoetropelaw12.RayPoints': WHATEVER THE INPUT: true; the input reads as it did. -/
def rayPointsSpec : ChangeSpec := { name := "rayPoints", fn := fun _ => fun
  | [d1, d2, d3, d4, d5, d6] => { results := [.lit (.bool true)], args := [d1, d2, d3, d4, d5, d6] }
  | _ => none }
def rayPointsRow : OpenClaim := { program := "ytgmopdnknkjfpaa", sum := "1b97a3d3103a7486abbc825e2bd34de609dab1c94cdec2259d4ada63a342d3f3", func := "zoetrope/zoetropelaw12.RayPoints", spec := "rayPoints", unfollowed := true, recurses := true, apart := false }
def RayPointsSaid : Prop := rayPointsRow.holds Try.pinned (OpenSpec.ofChange rayPointsSpec)

/-- ITS FALSE NEIGHBOUR: 'it returns false'. Refute it at one input. -/
def rayPointsWrong : ChangeSpec := { name := "rayPoints", fn := fun _ => fun
  | [d1, d2, d3, d4, d5, d6] => { results := [.lit (.bool false)], args := [d1, d2, d3, d4, d5, d6] }
  | _ => none }
def RayPointsWrongFalsely : Prop := rayPointsRow.holds Try.pinned (OpenSpec.ofChange rayPointsWrong)

/-- 'zoetropelaw12.RayNearer': WHATEVER THE INPUT: true; the input reads as it did. -/
def rayNearerSpec : ChangeSpec := { name := "rayNearer", fn := fun _ => fun
  | [d1, d2, d3, d4, d5] => { results := [.lit (.bool true)], args := [d1, d2, d3, d4, d5] }
  | _ => none }
def rayNearerRow : OpenClaim := { program := "ytgmopdnknkjfpaa", sum := "1b97a3d3103a7486abbc825e2bd34de609dab1c94cdec2259d4ada63a342d3f3", func := "zoetrope/zoetropelaw12.RayNearer", spec := "rayNearer", unfollowed := true, recurses := true, apart := false }
def RayNearerSaid : Prop := rayNearerRow.holds Try.pinned (OpenSpec.ofChange rayNearerSpec)

/-- ITS FALSE NEIGHBOUR: 'it returns false'. Refute it at one input. -/
def rayNearerWrong : ChangeSpec := { name := "rayNearer", fn := fun _ => fun
  | [d1, d2, d3, d4, d5] => { results := [.lit (.bool false)], args := [d1, d2, d3, d4, d5] }
  | _ => none }
def RayNearerWrongFalsely : Prop := rayNearerRow.holds Try.pinned (OpenSpec.ofChange rayNearerWrong)

/-- 'zoetropelaw12.RaySpans': WHATEVER THE INPUT: true; the input reads as it did. -/
def raySpansSpec : ChangeSpec := { name := "raySpans", fn := fun _ => fun
  | [d1, d2, d3, d4, d5] => { results := [.lit (.bool true)], args := [d1, d2, d3, d4, d5] }
  | _ => none }
def raySpansRow : OpenClaim := { program := "ytgmopdnknkjfpaa", sum := "1b97a3d3103a7486abbc825e2bd34de609dab1c94cdec2259d4ada63a342d3f3", func := "zoetrope/zoetropelaw12.RaySpans", spec := "raySpans", unfollowed := true, recurses := true, apart := false }
def RaySpansSaid : Prop := raySpansRow.holds Try.pinned (OpenSpec.ofChange raySpansSpec)

/-- ITS FALSE NEIGHBOUR: 'it returns false'. Refute it at one input. -/
def raySpansWrong : ChangeSpec := { name := "raySpans", fn := fun _ => fun
  | [d1, d2, d3, d4, d5] => { results := [.lit (.bool false)], args := [d1, d2, d3, d4, d5] }
  | _ => none }
def RaySpansWrongFalsely : Prop := raySpansRow.holds Try.pinned (OpenSpec.ofChange raySpansWrong)

/- THE SECOND FORM. 'bulk': how many values and letters a reading holds, each counted each time it is reached (what is shared counts as often as it is met; a slice's spare places count too). A statement '..UptoSaid' is the law's where the arguments, and the package variables that the reading takes, are together of bulk at most 1048576: NARROWER than '..Said'. Prove '..Said' where nothing that the law and all that it calls make is longer than what came in: it says more and counts as full. Else prove '..UptoSaid'. A law counts once. -/
mutual
def uptoBulk {H : Type} : DataW H → Nat
  | .lit (.string bytes) => bytes.length + 1
  | .lit _ => 1
  | .nil => 1
  | .ptr d => uptoBulk d + 1
  | .slice elems spare => uptoBulkAll elems + uptoBulkAll spare + 1
  | .agg parts => uptoBulkAll parts + 1
  | .iface _ d => uptoBulk d + 1
  | .map entries => uptoBulkEntries entries + 1
  | .held _ => 1
def uptoBulkAll {H : Type} : List (DataW H) → Nat
  | [] => 0
  | d :: r => uptoBulk d + uptoBulkAll r
def uptoBulkEntries {H : Type} : List (Lit × DataW H) → Nat
  | [] => 0
  | x :: r => uptoBulkEntry x + uptoBulkEntries r
def uptoBulkEntry {H : Type} : Lit × DataW H → Nat
  | (.string bytes, d) => bytes.length + uptoBulk d + 1
  | (_, d) => uptoBulk d + 1
 end
def uptoSmall : (H : Type) → List (DataW H) → Bool := fun _ ds => decide (uptoBulkAll ds ≤ 1048576)
def OpenSpec.upto (s : _root_.Go.ChangeSpec) : _root_.Go.OpenSpec := { _root_.Go.OpenSpec.ofChange s with cond := some uptoSmall }

/-- 'zoetropelaw12.RayPoints', WHERE WHAT IT READS IS OF BULK AT MOST 1048576: true; the input reads as it did. -/
def rayPointsUptoRow : OpenClaim := { program := "ytgmopdnknkjfpaa", sum := "1b97a3d3103a7486abbc825e2bd34de609dab1c94cdec2259d4ada63a342d3f3", func := "zoetrope/zoetropelaw12.RayPoints", spec := "rayPoints", unfollowed := true, recurses := true, apart := false, narrowed := true }
def RayPointsUptoSaid : Prop := rayPointsUptoRow.holds Try.pinned (OpenSpec.upto rayPointsSpec)

/-- 'zoetropelaw12.RayNearer', WHERE WHAT IT READS IS OF BULK AT MOST 1048576: true; the input reads as it did. -/
def rayNearerUptoRow : OpenClaim := { program := "ytgmopdnknkjfpaa", sum := "1b97a3d3103a7486abbc825e2bd34de609dab1c94cdec2259d4ada63a342d3f3", func := "zoetrope/zoetropelaw12.RayNearer", spec := "rayNearer", unfollowed := true, recurses := true, apart := false, narrowed := true }
def RayNearerUptoSaid : Prop := rayNearerUptoRow.holds Try.pinned (OpenSpec.upto rayNearerSpec)

/-- 'zoetropelaw12.RaySpans', WHERE WHAT IT READS IS OF BULK AT MOST 1048576: true; the input reads as it did. -/
def raySpansUptoRow : OpenClaim := { program := "ytgmopdnknkjfpaa", sum := "1b97a3d3103a7486abbc825e2bd34de609dab1c94cdec2259d4ada63a342d3f3", func := "zoetrope/zoetropelaw12.RaySpans", spec := "raySpans", unfollowed := true, recurses := true, apart := false, narrowed := true }
def RaySpansUptoSaid : Prop := raySpansUptoRow.holds Try.pinned (OpenSpec.upto raySpansSpec)

end Rows
end Go.Proofs.Ytgmopdnknkjfpaa
