/-
  No cell of these rows narrows 'for every input' (looked for: loops, veiled, ifaces, maps, wideKeys, modest, calm, conditions, laid).
  DERIVED. THE GIVEN ROWS OF THIS SEAT. 12 by the template 'for every input the law returns true; each argument reads behind the call as it read before'; 0 by the template 'total and deterministic' (their statements: YtaikocplcblnkaaTotals.lean).
  GIVEN WITH THE SEED: the statements are not yours to turn. If you find one false, say at which input.
  Laid BY PROGRAM, IN A SANDBOX (cutbox-rows.mjs): the forced cells as the released guide's own fill.sh prints them over the translation bf69a21059ba0d39… (all of the seat's roots in one cut). By AI agents, Wed Nov 11 2026. No macro, syntax, notation, axiom, sorry.
-/
import Derived.Test.YtaikocplcblnkaaChecked
import GoSem.Claim
import GoSem.ClaimJoined
import GoSem.ClaimMapViews
import Derived.JoinedTies
import Derived.KernelRfl
namespace Go.Proofs.Ytaikocplcblnkaa
/- THE CELL 'sum', in the pinned program and in every row, IS THE sha256 OF THE DUMP (.gsa) THAT YtaikocplcblnkaaProg.lean LOADS. Nothing in Lean hashes anything: it is a label: what it is worth is what the hold of that sum in a sandbox is worth. -/
noncomputable def Try.pinned : Pinned := { name := "ytaikocplcblnkaa", sum := "bf69a21059ba0d39dd8329722f637fa86e1dec69c9e0355595ee117d8bea833e", checked := Try.checked }
namespace Rows
def none {H : Type} : Left H := { results := [], args := [] }

/-- 'zoetropelaw02.VecSums': WHATEVER THE INPUT: true; the input reads as it did. -/
def vecSumsSpec : ChangeSpec := { name := "vecSums", fn := fun _ => fun
  | [d1, d2, d3, d4] => { results := [.lit (.bool true)], args := [d1, d2, d3, d4] }
  | _ => none }
def vecSumsRow : OpenClaim := { program := "ytaikocplcblnkaa", sum := "bf69a21059ba0d39dd8329722f637fa86e1dec69c9e0355595ee117d8bea833e", func := "zoetrope/zoetropelaw02.VecSums", spec := "vecSums", unfollowed := true, recurses := true, apart := false }
def VecSumsSaid : Prop := vecSumsRow.holds Try.pinned (OpenSpec.ofChange vecSumsSpec)

/-- ITS FALSE NEIGHBOUR: 'it returns false'. Refute it at one input. -/
def vecSumsWrong : ChangeSpec := { name := "vecSums", fn := fun _ => fun
  | [d1, d2, d3, d4] => { results := [.lit (.bool false)], args := [d1, d2, d3, d4] }
  | _ => none }
def VecSumsWrongFalsely : Prop := vecSumsRow.holds Try.pinned (OpenSpec.ofChange vecSumsWrong)

/-- 'zoetropelaw02.VecBetween': WHATEVER THE INPUT: true; the input reads as it did. -/
def vecBetweenSpec : ChangeSpec := { name := "vecBetween", fn := fun _ => fun
  | [d1, d2, d3, d4] => { results := [.lit (.bool true)], args := [d1, d2, d3, d4] }
  | _ => none }
def vecBetweenRow : OpenClaim := { program := "ytaikocplcblnkaa", sum := "bf69a21059ba0d39dd8329722f637fa86e1dec69c9e0355595ee117d8bea833e", func := "zoetrope/zoetropelaw02.VecBetween", spec := "vecBetween", unfollowed := true, recurses := true, apart := false }
def VecBetweenSaid : Prop := vecBetweenRow.holds Try.pinned (OpenSpec.ofChange vecBetweenSpec)

/-- ITS FALSE NEIGHBOUR: 'it returns false'. Refute it at one input. -/
def vecBetweenWrong : ChangeSpec := { name := "vecBetween", fn := fun _ => fun
  | [d1, d2, d3, d4] => { results := [.lit (.bool false)], args := [d1, d2, d3, d4] }
  | _ => none }
def VecBetweenWrongFalsely : Prop := vecBetweenRow.holds Try.pinned (OpenSpec.ofChange vecBetweenWrong)

/-- 'zoetropelaw02.VecLists': WHATEVER THE INPUT: true; the input reads as it did. -/
def vecListsSpec : ChangeSpec := { name := "vecLists", fn := fun _ => fun
  | [d1, d2] => { results := [.lit (.bool true)], args := [d1, d2] }
  | _ => none }
def vecListsRow : OpenClaim := { program := "ytaikocplcblnkaa", sum := "bf69a21059ba0d39dd8329722f637fa86e1dec69c9e0355595ee117d8bea833e", func := "zoetrope/zoetropelaw02.VecLists", spec := "vecLists", unfollowed := true, recurses := true, apart := false }
def VecListsSaid : Prop := vecListsRow.holds Try.pinned (OpenSpec.ofChange vecListsSpec)

/-- ITS FALSE NEIGHBOUR: 'it returns false'. Refute it at one input. -/
def vecListsWrong : ChangeSpec := { name := "vecLists", fn := fun _ => fun
  | [d1, d2] => { results := [.lit (.bool false)], args := [d1, d2] }
  | _ => none }
def VecListsWrongFalsely : Prop := vecListsRow.holds Try.pinned (OpenSpec.ofChange vecListsWrong)

/-- 'zoetropelaw02.VecMats': WHATEVER THE INPUT: true; the input reads as it did. -/
def vecMatsSpec : ChangeSpec := { name := "vecMats", fn := fun _ => fun
  | [d1, d2, d3, d4] => { results := [.lit (.bool true)], args := [d1, d2, d3, d4] }
  | _ => none }
def vecMatsRow : OpenClaim := { program := "ytaikocplcblnkaa", sum := "bf69a21059ba0d39dd8329722f637fa86e1dec69c9e0355595ee117d8bea833e", func := "zoetrope/zoetropelaw02.VecMats", spec := "vecMats", unfollowed := true, recurses := true, apart := false }
def VecMatsSaid : Prop := vecMatsRow.holds Try.pinned (OpenSpec.ofChange vecMatsSpec)

/-- ITS FALSE NEIGHBOUR: 'it returns false'. Refute it at one input. -/
def vecMatsWrong : ChangeSpec := { name := "vecMats", fn := fun _ => fun
  | [d1, d2, d3, d4] => { results := [.lit (.bool false)], args := [d1, d2, d3, d4] }
  | _ => none }
def VecMatsWrongFalsely : Prop := vecMatsRow.holds Try.pinned (OpenSpec.ofChange vecMatsWrong)

/-- 'zoetropelaw02.VecChains': WHATEVER THE INPUT: true; the input reads as it did. -/
def vecChainsSpec : ChangeSpec := { name := "vecChains", fn := fun _ => fun
  | [d] => { results := [.lit (.bool true)], args := [d] }
  | _ => none }
def vecChainsRow : OpenClaim := { program := "ytaikocplcblnkaa", sum := "bf69a21059ba0d39dd8329722f637fa86e1dec69c9e0355595ee117d8bea833e", func := "zoetrope/zoetropelaw02.VecChains", spec := "vecChains", unfollowed := true, recurses := true, apart := false }
def VecChainsSaid : Prop := vecChainsRow.holds Try.pinned (OpenSpec.ofChange vecChainsSpec)

/-- ITS FALSE NEIGHBOUR: 'it returns false'. Refute it at one input. -/
def vecChainsWrong : ChangeSpec := { name := "vecChains", fn := fun _ => fun
  | [d] => { results := [.lit (.bool false)], args := [d] }
  | _ => none }
def VecChainsWrongFalsely : Prop := vecChainsRow.holds Try.pinned (OpenSpec.ofChange vecChainsWrong)

/-- 'zoetropelaw02.VecProducts': WHATEVER THE INPUT: true; the input reads as it did. -/
def vecProductsSpec : ChangeSpec := { name := "vecProducts", fn := fun _ => fun
  | [d1, d2, d3] => { results := [.lit (.bool true)], args := [d1, d2, d3] }
  | _ => none }
def vecProductsRow : OpenClaim := { program := "ytaikocplcblnkaa", sum := "bf69a21059ba0d39dd8329722f637fa86e1dec69c9e0355595ee117d8bea833e", func := "zoetrope/zoetropelaw02.VecProducts", spec := "vecProducts", apart := false }
def VecProductsSaid : Prop := vecProductsRow.holds Try.pinned (OpenSpec.ofChange vecProductsSpec)

/-- ITS FALSE NEIGHBOUR: 'it returns false'. Refute it at one input. -/
def vecProductsWrong : ChangeSpec := { name := "vecProducts", fn := fun _ => fun
  | [d1, d2, d3] => { results := [.lit (.bool false)], args := [d1, d2, d3] }
  | _ => none }
def VecProductsWrongFalsely : Prop := vecProductsRow.holds Try.pinned (OpenSpec.ofChange vecProductsWrong)

/-- 'zoetropelaw03.WaveBounds': WHATEVER THE INPUT: true; the input reads as it did. -/
def waveBoundsSpec : ChangeSpec := { name := "waveBounds", fn := fun _ => fun
  | [d] => { results := [.lit (.bool true)], args := [d] }
  | _ => none }
def waveBoundsRow : OpenClaim := { program := "ytaikocplcblnkaa", sum := "bf69a21059ba0d39dd8329722f637fa86e1dec69c9e0355595ee117d8bea833e", func := "zoetrope/zoetropelaw03.WaveBounds", spec := "waveBounds", apart := false }
def WaveBoundsSaid : Prop := waveBoundsRow.holds Try.pinned (OpenSpec.ofChange waveBoundsSpec)

/-- ITS FALSE NEIGHBOUR: 'it returns false'. Refute it at one input. -/
def waveBoundsWrong : ChangeSpec := { name := "waveBounds", fn := fun _ => fun
  | [d] => { results := [.lit (.bool false)], args := [d] }
  | _ => none }
def WaveBoundsWrongFalsely : Prop := waveBoundsRow.holds Try.pinned (OpenSpec.ofChange waveBoundsWrong)

/-- 'zoetropelaw03.WaveEases': WHATEVER THE INPUT: true; the input reads as it did. -/
def waveEasesSpec : ChangeSpec := { name := "waveEases", fn := fun _ => fun
  | [d] => { results := [.lit (.bool true)], args := [d] }
  | _ => none }
def waveEasesRow : OpenClaim := { program := "ytaikocplcblnkaa", sum := "bf69a21059ba0d39dd8329722f637fa86e1dec69c9e0355595ee117d8bea833e", func := "zoetrope/zoetropelaw03.WaveEases", spec := "waveEases", apart := false }
def WaveEasesSaid : Prop := waveEasesRow.holds Try.pinned (OpenSpec.ofChange waveEasesSpec)

/-- ITS FALSE NEIGHBOUR: 'it returns false'. Refute it at one input. -/
def waveEasesWrong : ChangeSpec := { name := "waveEases", fn := fun _ => fun
  | [d] => { results := [.lit (.bool false)], args := [d] }
  | _ => none }
def WaveEasesWrongFalsely : Prop := waveEasesRow.holds Try.pinned (OpenSpec.ofChange waveEasesWrong)

/-- 'zoetropelaw03.WaveSins': WHATEVER THE INPUT: true; the input reads as it did. -/
def waveSinsSpec : ChangeSpec := { name := "waveSins", fn := fun _ => fun
  | [d] => { results := [.lit (.bool true)], args := [d] }
  | _ => none }
def waveSinsRow : OpenClaim := { program := "ytaikocplcblnkaa", sum := "bf69a21059ba0d39dd8329722f637fa86e1dec69c9e0355595ee117d8bea833e", func := "zoetrope/zoetropelaw03.WaveSins", spec := "waveSins", apart := false }
def WaveSinsSaid : Prop := waveSinsRow.holds Try.pinned (OpenSpec.ofChange waveSinsSpec)

/-- ITS FALSE NEIGHBOUR: 'it returns false'. Refute it at one input. -/
def waveSinsWrong : ChangeSpec := { name := "waveSins", fn := fun _ => fun
  | [d] => { results := [.lit (.bool false)], args := [d] }
  | _ => none }
def WaveSinsWrongFalsely : Prop := waveSinsRow.holds Try.pinned (OpenSpec.ofChange waveSinsWrong)

/-- 'zoetropelaw03.WaveTurns': WHATEVER THE INPUT: true; the input reads as it did. -/
def waveTurnsSpec : ChangeSpec := { name := "waveTurns", fn := fun _ => fun
  | [d1, d2, d3] => { results := [.lit (.bool true)], args := [d1, d2, d3] }
  | _ => none }
def waveTurnsRow : OpenClaim := { program := "ytaikocplcblnkaa", sum := "bf69a21059ba0d39dd8329722f637fa86e1dec69c9e0355595ee117d8bea833e", func := "zoetrope/zoetropelaw03.WaveTurns", spec := "waveTurns", unfollowed := true, recurses := true, apart := false }
def WaveTurnsSaid : Prop := waveTurnsRow.holds Try.pinned (OpenSpec.ofChange waveTurnsSpec)

/-- ITS FALSE NEIGHBOUR: 'it returns false'. Refute it at one input. -/
def waveTurnsWrong : ChangeSpec := { name := "waveTurns", fn := fun _ => fun
  | [d1, d2, d3] => { results := [.lit (.bool false)], args := [d1, d2, d3] }
  | _ => none }
def WaveTurnsWrongFalsely : Prop := waveTurnsRow.holds Try.pinned (OpenSpec.ofChange waveTurnsWrong)

/-- 'zoetropelaw05.HueShows': WHATEVER THE INPUT: true; the input reads as it did. -/
def hueShowsSpec : ChangeSpec := { name := "hueShows", fn := fun _ => fun
  | [d1, d2] => { results := [.lit (.bool true)], args := [d1, d2] }
  | _ => none }
def hueShowsRow : OpenClaim := { program := "ytaikocplcblnkaa", sum := "bf69a21059ba0d39dd8329722f637fa86e1dec69c9e0355595ee117d8bea833e", func := "zoetrope/zoetropelaw05.HueShows", spec := "hueShows", apart := false }
def HueShowsSaid : Prop := hueShowsRow.holds Try.pinned (OpenSpec.ofChange hueShowsSpec)

/-- ITS FALSE NEIGHBOUR: 'it returns false'. Refute it at one input. -/
def hueShowsWrong : ChangeSpec := { name := "hueShows", fn := fun _ => fun
  | [d1, d2] => { results := [.lit (.bool false)], args := [d1, d2] }
  | _ => none }
def HueShowsWrongFalsely : Prop := hueShowsRow.holds Try.pinned (OpenSpec.ofChange hueShowsWrong)

/-- 'zoetropelaw05.HueRises': WHATEVER THE INPUT: true; the input reads as it did. -/
def hueRisesSpec : ChangeSpec := { name := "hueRises", fn := fun _ => fun
  | [d1, d2] => { results := [.lit (.bool true)], args := [d1, d2] }
  | _ => none }
def hueRisesRow : OpenClaim := { program := "ytaikocplcblnkaa", sum := "bf69a21059ba0d39dd8329722f637fa86e1dec69c9e0355595ee117d8bea833e", func := "zoetrope/zoetropelaw05.HueRises", spec := "hueRises", apart := false }
def HueRisesSaid : Prop := hueRisesRow.holds Try.pinned (OpenSpec.ofChange hueRisesSpec)

/-- ITS FALSE NEIGHBOUR: 'it returns false'. Refute it at one input. -/
def hueRisesWrong : ChangeSpec := { name := "hueRises", fn := fun _ => fun
  | [d1, d2] => { results := [.lit (.bool false)], args := [d1, d2] }
  | _ => none }
def HueRisesWrongFalsely : Prop := hueRisesRow.holds Try.pinned (OpenSpec.ofChange hueRisesWrong)

/- THE SECOND FORM. 'bulk': how many values and letters a reading holds, each counted each time it is reached (what is shared counts as often as it is met; a slice's spare places count too). A statement '..UptoSaid' is the law's where the arguments, and the package variables that the reading takes, are together of bulk at most 1048576: NARROWER than '..Said'. Prove '..Said' where nothing that the law and all that it calls make is longer than what came in: it says more and counts as full. Else prove '..UptoSaid'. A law counts once. -/
mutual
def uptoBulk {H : Type} : DataW H → Nat
  | .lit (.string bytes) => bytes.length + 1
  | .lit _ => 1
  | .nil => 1
  | .ptr d => uptoBulk d + 1
  | .slice elems spare => uptoBulkAll elems + uptoBulkAll spare + 1
  | .agg parts => uptoBulkAll parts + 1
  | .iface _ d => uptoBulk d + 1
  | .map entries => uptoBulkEntries entries + 1
  | .held _ => 1
def uptoBulkAll {H : Type} : List (DataW H) → Nat
  | [] => 0
  | d :: r => uptoBulk d + uptoBulkAll r
def uptoBulkEntries {H : Type} : List (Lit × DataW H) → Nat
  | [] => 0
  | x :: r => uptoBulkEntry x + uptoBulkEntries r
def uptoBulkEntry {H : Type} : Lit × DataW H → Nat
  | (.string bytes, d) => bytes.length + uptoBulk d + 1
  | (_, d) => uptoBulk d + 1
 end
def uptoSmall : (H : Type) → List (DataW H) → Bool := fun _ ds => decide (uptoBulkAll ds ≤ 1048576)
def OpenSpec.upto (s : _root_.Go.ChangeSpec) : _root_.Go.OpenSpec := { _root_.Go.OpenSpec.ofChange s with cond := some uptoSmall }

/-- 'zoetropelaw02.VecSums', WHERE WHAT IT READS IS OF BULK AT MOST 1048576: true; the input reads as it did. -/
def vecSumsUptoRow : OpenClaim := { program := "ytaikocplcblnkaa", sum := "bf69a21059ba0d39dd8329722f637fa86e1dec69c9e0355595ee117d8bea833e", func := "zoetrope/zoetropelaw02.VecSums", spec := "vecSums", unfollowed := true, recurses := true, apart := false, narrowed := true }
def VecSumsUptoSaid : Prop := vecSumsUptoRow.holds Try.pinned (OpenSpec.upto vecSumsSpec)

/-- 'zoetropelaw02.VecBetween', WHERE WHAT IT READS IS OF BULK AT MOST 1048576: true; the input reads as it did. -/
def vecBetweenUptoRow : OpenClaim := { program := "ytaikocplcblnkaa", sum := "bf69a21059ba0d39dd8329722f637fa86e1dec69c9e0355595ee117d8bea833e", func := "zoetrope/zoetropelaw02.VecBetween", spec := "vecBetween", unfollowed := true, recurses := true, apart := false, narrowed := true }
def VecBetweenUptoSaid : Prop := vecBetweenUptoRow.holds Try.pinned (OpenSpec.upto vecBetweenSpec)

/-- 'zoetropelaw02.VecLists', WHERE WHAT IT READS IS OF BULK AT MOST 1048576: true; the input reads as it did. -/
def vecListsUptoRow : OpenClaim := { program := "ytaikocplcblnkaa", sum := "bf69a21059ba0d39dd8329722f637fa86e1dec69c9e0355595ee117d8bea833e", func := "zoetrope/zoetropelaw02.VecLists", spec := "vecLists", unfollowed := true, recurses := true, apart := false, narrowed := true }
def VecListsUptoSaid : Prop := vecListsUptoRow.holds Try.pinned (OpenSpec.upto vecListsSpec)

/-- 'zoetropelaw02.VecMats', WHERE WHAT IT READS IS OF BULK AT MOST 1048576: true; the input reads as it did. -/
def vecMatsUptoRow : OpenClaim := { program := "ytaikocplcblnkaa", sum := "bf69a21059ba0d39dd8329722f637fa86e1dec69c9e0355595ee117d8bea833e", func := "zoetrope/zoetropelaw02.VecMats", spec := "vecMats", unfollowed := true, recurses := true, apart := false, narrowed := true }
def VecMatsUptoSaid : Prop := vecMatsUptoRow.holds Try.pinned (OpenSpec.upto vecMatsSpec)

/-- 'zoetropelaw02.VecChains', WHERE WHAT IT READS IS OF BULK AT MOST 1048576: true; the input reads as it did. -/
def vecChainsUptoRow : OpenClaim := { program := "ytaikocplcblnkaa", sum := "bf69a21059ba0d39dd8329722f637fa86e1dec69c9e0355595ee117d8bea833e", func := "zoetrope/zoetropelaw02.VecChains", spec := "vecChains", unfollowed := true, recurses := true, apart := false, narrowed := true }
def VecChainsUptoSaid : Prop := vecChainsUptoRow.holds Try.pinned (OpenSpec.upto vecChainsSpec)

/-- 'zoetropelaw02.VecProducts', WHERE WHAT IT READS IS OF BULK AT MOST 1048576: true; the input reads as it did. -/
def vecProductsUptoRow : OpenClaim := { program := "ytaikocplcblnkaa", sum := "bf69a21059ba0d39dd8329722f637fa86e1dec69c9e0355595ee117d8bea833e", func := "zoetrope/zoetropelaw02.VecProducts", spec := "vecProducts", apart := false, narrowed := true }
def VecProductsUptoSaid : Prop := vecProductsUptoRow.holds Try.pinned (OpenSpec.upto vecProductsSpec)

/-- 'zoetropelaw03.WaveBounds', WHERE WHAT IT READS IS OF BULK AT MOST 1048576: true; the input reads as it did. -/
def waveBoundsUptoRow : OpenClaim := { program := "ytaikocplcblnkaa", sum := "bf69a21059ba0d39dd8329722f637fa86e1dec69c9e0355595ee117d8bea833e", func := "zoetrope/zoetropelaw03.WaveBounds", spec := "waveBounds", apart := false, narrowed := true }
def WaveBoundsUptoSaid : Prop := waveBoundsUptoRow.holds Try.pinned (OpenSpec.upto waveBoundsSpec)

/-- 'zoetropelaw03.WaveEases', WHERE WHAT IT READS IS OF BULK AT MOST 1048576: true; the input reads as it did. -/
def waveEasesUptoRow : OpenClaim := { program := "ytaikocplcblnkaa", sum := "bf69a21059ba0d39dd8329722f637fa86e1dec69c9e0355595ee117d8bea833e", func := "zoetrope/zoetropelaw03.WaveEases", spec := "waveEases", apart := false, narrowed := true }
def WaveEasesUptoSaid : Prop := waveEasesUptoRow.holds Try.pinned (OpenSpec.upto waveEasesSpec)

/-- 'zoetropelaw03.WaveSins', WHERE WHAT IT READS IS OF BULK AT MOST 1048576: true; the input reads as it did. -/
def waveSinsUptoRow : OpenClaim := { program := "ytaikocplcblnkaa", sum := "bf69a21059ba0d39dd8329722f637fa86e1dec69c9e0355595ee117d8bea833e", func := "zoetrope/zoetropelaw03.WaveSins", spec := "waveSins", apart := false, narrowed := true }
def WaveSinsUptoSaid : Prop := waveSinsUptoRow.holds Try.pinned (OpenSpec.upto waveSinsSpec)

/-- 'zoetropelaw03.WaveTurns', WHERE WHAT IT READS IS OF BULK AT MOST 1048576: true; the input reads as it did. -/
def waveTurnsUptoRow : OpenClaim := { program := "ytaikocplcblnkaa", sum := "bf69a21059ba0d39dd8329722f637fa86e1dec69c9e0355595ee117d8bea833e", func := "zoetrope/zoetropelaw03.WaveTurns", spec := "waveTurns", unfollowed := true, recurses := true, apart := false, narrowed := true }
def WaveTurnsUptoSaid : Prop := waveTurnsUptoRow.holds Try.pinned (OpenSpec.upto waveTurnsSpec)

/-- 'zoetropelaw05.HueShows', WHERE WHAT IT READS IS OF BULK AT MOST 1048576: true; the input reads as it did. -/
def hueShowsUptoRow : OpenClaim := { program := "ytaikocplcblnkaa", sum := "bf69a21059ba0d39dd8329722f637fa86e1dec69c9e0355595ee117d8bea833e", func := "zoetrope/zoetropelaw05.HueShows", spec := "hueShows", apart := false, narrowed := true }
def HueShowsUptoSaid : Prop := hueShowsUptoRow.holds Try.pinned (OpenSpec.upto hueShowsSpec)

/-- 'zoetropelaw05.HueRises', WHERE WHAT IT READS IS OF BULK AT MOST 1048576: true; the input reads as it did. -/
def hueRisesUptoRow : OpenClaim := { program := "ytaikocplcblnkaa", sum := "bf69a21059ba0d39dd8329722f637fa86e1dec69c9e0355595ee117d8bea833e", func := "zoetrope/zoetropelaw05.HueRises", spec := "hueRises", apart := false, narrowed := true }
def HueRisesUptoSaid : Prop := hueRisesUptoRow.holds Try.pinned (OpenSpec.upto hueRisesSpec)

end Rows
end Go.Proofs.Ytaikocplcblnkaa
