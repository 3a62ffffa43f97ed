/-
  DERIVED. GIVEN WITH THE SEED: THE CARDS: each row of YtijidmcblpgfkaaDoorRows.lean that lists a variable, with what it lists TIED to the program's text (the seventh form; the later family's looks); each row that meets fmt, with fmt's text TOLD by the authors' own Lean function (tested against real Go, not proved from fmt's source: count such statements apart). THE CARD IS WHAT COUNTS. Prove the row's statement (the work); the ties are given (YtijidmcblpgfkaaDoorTie.lean); close each card by the builder's one call (the guide's Derived/Test/ToyasCard.lean, 'card_holds'). Laid BY PROGRAM, IN A SANDBOX (cutbox-door.mjs). By AI agents, Wed Nov 11 2026. No macro, syntax, notation, axiom, sorry.
-/
import Derived.Test.YtijidmcblpgfkaaDoorRows
import GoSem.ClaimSeven
namespace Go.Proofs.YtijidmcblpgfkaaDoor
namespace Rows

/-- THE TIED CARD OF 'zoetropelaw20.LaceLevels'. -/
def laceLevelsCard : Claim7 := { stood := { row := laceLevelsRow, standIns := [], harness := (true, "73c9a945d78aa1315053beefce8d5b61b73c1b76f2f6988a45b66949fed7e868"), looks := false }, kinds := [], alts := [], laidByText := true, laidKinds := [.data], laidTests := true, laidLooks := .later }
def LaceLevelsCardSaid : Prop := Claim7.holds Tryd.pinned (.plain (OpenSpec.ofChange laceLevelsSpec)) laceLevelsCard

/-- THE TIED CARD OF 'zoetropelaw20.LaceSmooths'. -/
def laceSmoothsCard : Claim7 := { stood := { row := laceSmoothsRow, standIns := [], harness := (true, "73c9a945d78aa1315053beefce8d5b61b73c1b76f2f6988a45b66949fed7e868"), looks := false }, kinds := [], alts := [], laidByText := true, laidKinds := [.data], laidTests := true, laidLooks := .later }
def LaceSmoothsCardSaid : Prop := Claim7.holds Tryd.pinned (.plain (OpenSpec.ofChange laceSmoothsSpec)) laceSmoothsCard

/-- THE TIED CARD OF 'zoetropelaw20.LaceFlat'. -/
def laceFlatCard : Claim7 := { stood := { row := laceFlatRow, standIns := [], harness := (true, "73c9a945d78aa1315053beefce8d5b61b73c1b76f2f6988a45b66949fed7e868"), looks := false }, kinds := [], alts := [], laidByText := true, laidKinds := [.data], laidTests := true, laidLooks := .later }
def LaceFlatCardSaid : Prop := Claim7.holds Tryd.pinned (.plain (OpenSpec.ofChange laceFlatSpec)) laceFlatCard

/-- THE SECOND FORM's CARD OF 'zoetropelaw20.LaceLevels'. -/
def laceLevelsUptoCard : Claim7 := { stood := { row := laceLevelsUptoRow, standIns := [], harness := (true, "73c9a945d78aa1315053beefce8d5b61b73c1b76f2f6988a45b66949fed7e868"), looks := false }, kinds := [], alts := [], laidByText := true, laidKinds := [.data], laidTests := true, laidLooks := .later }
def LaceLevelsUptoCardSaid : Prop := Claim7.holds Tryd.pinned (.plain (OpenSpec.upto laceLevelsSpec)) laceLevelsUptoCard

/-- THE SECOND FORM's CARD OF 'zoetropelaw20.LaceSmooths'. -/
def laceSmoothsUptoCard : Claim7 := { stood := { row := laceSmoothsUptoRow, standIns := [], harness := (true, "73c9a945d78aa1315053beefce8d5b61b73c1b76f2f6988a45b66949fed7e868"), looks := false }, kinds := [], alts := [], laidByText := true, laidKinds := [.data], laidTests := true, laidLooks := .later }
def LaceSmoothsUptoCardSaid : Prop := Claim7.holds Tryd.pinned (.plain (OpenSpec.upto laceSmoothsSpec)) laceSmoothsUptoCard

/-- THE SECOND FORM's CARD OF 'zoetropelaw20.LaceFlat'. -/
def laceFlatUptoCard : Claim7 := { stood := { row := laceFlatUptoRow, standIns := [], harness := (true, "73c9a945d78aa1315053beefce8d5b61b73c1b76f2f6988a45b66949fed7e868"), looks := false }, kinds := [], alts := [], laidByText := true, laidKinds := [.data], laidTests := true, laidLooks := .later }
def LaceFlatUptoCardSaid : Prop := Claim7.holds Tryd.pinned (.plain (OpenSpec.upto laceFlatSpec)) laceFlatUptoCard
end Rows
end Go.Proofs.YtijidmcblpgfkaaDoor
