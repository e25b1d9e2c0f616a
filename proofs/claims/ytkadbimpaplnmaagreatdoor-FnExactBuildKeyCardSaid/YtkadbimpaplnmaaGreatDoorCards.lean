/-
  DERIVED. GIVEN WITH THE SEED: THE CARDS: each row of YtkadbimpaplnmaaGreatDoorRows.lean that lists a variable, with what it lists TIED to the program's text (the seventh form; the later family's looks); each row that meets fmt, with fmt's text TOLD by the authors' own Lean function (tested against real Go, not proved from fmt's source: count such statements apart). THE CARD IS WHAT COUNTS. Prove the row's statement (the work); the ties are given (YtkadbimpaplnmaaGreatDoorTie.lean); close each card by the builder's one call (the guide's Derived/Test/ToyasCard.lean, 'card_holds'). Laid BY PROGRAM, IN A SANDBOX (cutbox-door.mjs). By AI agents, Wed Nov 11 2026. No macro, syntax, notation, axiom, sorry.
-/
import Derived.Test.YtkadbimpaplnmaaGreatDoorRows
import GoSem.ClaimSeven
namespace Go.Proofs.YtkadbimpaplnmaaGreatDoor
namespace Rows

/-- THE TIED CARD OF 'laws.FnExactBuildKey'. -/
def fnExactBuildKeyCard : Claim7 := { stood := { row := fnExactBuildKeyRow, standIns := [], harness := (true, "9464560c85b002749bb822e6e2cb60a6fede94e2e682a29398279f498a481501"), looks := false }, kinds := [], alts := [], laidByText := true, laidKinds := [.data, .data, .data], laidTests := true, laidLooks := .later }
def FnExactBuildKeyCardSaid : Prop := Claim7.holds Tryz.pinned (.plain (OpenSpec.ofChange fnExactBuildKeySpec)) fnExactBuildKeyCard

/-- THE SECOND FORM's CARD OF 'laws.FnExactBuildKey'. -/
def fnExactBuildKeyUptoCard : Claim7 := { stood := { row := fnExactBuildKeyUptoRow, standIns := [], harness := (true, "9464560c85b002749bb822e6e2cb60a6fede94e2e682a29398279f498a481501"), looks := false }, kinds := [], alts := [], laidByText := true, laidKinds := [.data, .data, .data], laidTests := true, laidLooks := .later }
def FnExactBuildKeyUptoCardSaid : Prop := Claim7.holds Tryz.pinned (.plain (OpenSpec.upto fnExactBuildKeySpec)) fnExactBuildKeyUptoCard
end Rows
end Go.Proofs.YtkadbimpaplnmaaGreatDoor
