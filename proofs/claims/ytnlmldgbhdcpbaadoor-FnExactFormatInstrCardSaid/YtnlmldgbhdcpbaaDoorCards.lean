/-
  DERIVED. GIVEN WITH THE SEED: THE CARDS: each row of YtnlmldgbhdcpbaaDoorRows.lean that lists a variable, with what it lists TIED to the program's text (the seventh form; the later family's looks); each row that meets fmt, with fmt's text TOLD by the authors' own Lean function (tested against real Go, not proved from fmt's source: count such statements apart). THE CARD IS WHAT COUNTS. Prove the row's statement (the work); the ties are given (YtnlmldgbhdcpbaaDoorTie.lean); close each card by the builder's one call (the guide's Derived/Test/ToyasCard.lean, 'card_holds'). Laid BY PROGRAM, IN A SANDBOX (cutbox-door.mjs). By AI agents, Wed Nov 11 2026. No macro, syntax, notation, axiom, sorry.
-/
import Derived.Test.YtnlmldgbhdcpbaaDoorRows
import GoSem.ClaimSeven
namespace Go.Proofs.YtnlmldgbhdcpbaaDoor
namespace Rows

/-- THE TIED CARD OF 'laws.FnExactFormatInstr'. -/
def fnExactFormatInstrCard : Claim7 := { stood := { row := fnExactFormatInstrRow, standIns := [], harness := (true, "31926206c8442c94557adfa6c9046f973fee189fe3db4126d43be57b5a32302a"), looks := false }, kinds := [], alts := [], laidByText := true, laidKinds := [.data, .data, .data], laidTests := true, laidLooks := .later }
def FnExactFormatInstrCardSaid : Prop := Claim7.holds Tryd.pinned (.plain (OpenSpec.ofChange fnExactFormatInstrSpec)) fnExactFormatInstrCard

/-- THE SECOND FORM's CARD OF 'laws.FnExactFormatInstr'. -/
def fnExactFormatInstrUptoCard : Claim7 := { stood := { row := fnExactFormatInstrUptoRow, standIns := [], harness := (true, "31926206c8442c94557adfa6c9046f973fee189fe3db4126d43be57b5a32302a"), looks := false }, kinds := [], alts := [], laidByText := true, laidKinds := [.data, .data, .data], laidTests := true, laidLooks := .later }
def FnExactFormatInstrUptoCardSaid : Prop := Claim7.holds Tryd.pinned (.plain (OpenSpec.upto fnExactFormatInstrSpec)) fnExactFormatInstrUptoCard
end Rows
end Go.Proofs.YtnlmldgbhdcpbaaDoor
