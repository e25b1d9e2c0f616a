/-
  DERIVED. GIVEN WITH THE SEED: THE CARDS: each row of YtgihkamifpmfdaaGreatDoorRows.lean that lists a variable, with what it lists TIED to the program's text (the seventh form; the later family's looks); each row that meets fmt, with fmt's text TOLD by the authors' own Lean function (tested against real Go, not proved from fmt's source: count such statements apart). THE CARD IS WHAT COUNTS. Prove the row's statement (the work); the ties are given (YtgihkamifpmfdaaGreatDoorTie.lean); close each card by the builder's one call (the guide's Derived/Test/ToyasCard.lean, 'card_holds'). Laid BY PROGRAM, IN A SANDBOX (cutbox-door.mjs). By AI agents, Wed Nov 11 2026. No macro, syntax, notation, axiom, sorry.
-/
import Derived.Test.YtgihkamifpmfdaaGreatDoorRows
import GoSem.ClaimSeven
namespace Go.Proofs.YtgihkamifpmfdaaGreatDoor
namespace Rows

/-- THE TIED CARD OF 'laws.FnExactFirstError'. -/
def fnExactFirstErrorCard : Claim7 := { stood := { row := fnExactFirstErrorRow, standIns := [], harness := (true, "dd85029507e923d83e097564bb5d92d07ad07afa20381418f89a9790dc4064a0"), looks := false }, kinds := [], alts := [], laidByText := true, laidKinds := [.data, .data, .data], laidTests := true, laidLooks := .later }
def FnExactFirstErrorCardSaid : Prop := Claim7.holds Tryz.pinned (.plain (OpenSpec.ofChange fnExactFirstErrorSpec)) fnExactFirstErrorCard

/-- THE SECOND FORM's CARD OF 'laws.FnExactFirstError'. -/
def fnExactFirstErrorUptoCard : Claim7 := { stood := { row := fnExactFirstErrorUptoRow, standIns := [], harness := (true, "dd85029507e923d83e097564bb5d92d07ad07afa20381418f89a9790dc4064a0"), looks := false }, kinds := [], alts := [], laidByText := true, laidKinds := [.data, .data, .data], laidTests := true, laidLooks := .later }
def FnExactFirstErrorUptoCardSaid : Prop := Claim7.holds Tryz.pinned (.plain (OpenSpec.upto fnExactFirstErrorSpec)) fnExactFirstErrorUptoCard
end Rows
end Go.Proofs.YtgihkamifpmfdaaGreatDoor
