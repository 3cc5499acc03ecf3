/-
  DERIVED. GIVEN WITH THE SEED: THE CARDS: each row of YtdgneofhcenhfaaGreatDoorRows.lean that lists a variable, with what it lists TIED to the program's text (the seventh form; the later family's looks); each row that meets fmt, with fmt's text TOLD by the authors' own Lean function (tested against real Go, not proved from fmt's source: count such statements apart). THE CARD IS WHAT COUNTS. Prove the row's statement (the work); the ties are given (YtdgneofhcenhfaaGreatDoorTie.lean); close each card by the builder's one call (the guide's Derived/Test/ToyasCard.lean, 'card_holds'). Laid BY PROGRAM, IN A SANDBOX (cutbox-door.mjs). By AI agents, Wed Nov 11 2026. No macro, syntax, notation, axiom, sorry.
-/
import Derived.Test.YtdgneofhcenhfaaGreatDoorRows
import GoSem.ClaimSeven
namespace Go.Proofs.YtdgneofhcenhfaaGreatDoor
namespace Rows

/-- THE TIED CARD OF 'tidewatertop.TopWrong'. -/
def topWrongCard : Claim7 := { stood := { row := topWrongRow, standIns := [], harness := (true, "471467621ab7b9c525618003607a3716e26cd6812bb72824da60ffd715053b3a"), looks := true }, kinds := [], alts := [], laidByText := true, laidKinds := [.data, .data, .data, .data, .pinned], laidTests := true, laidLooks := .later }
def TopWrongCardSaid : Prop := Claim7.holds Tryz.pinned (.plain (OpenSpec.ofChange topWrongSpec)) topWrongCard

/-- THE SECOND FORM's CARD OF 'tidewatertop.TopWrong'. -/
def topWrongUptoCard : Claim7 := { stood := { row := topWrongUptoRow, standIns := [], harness := (true, "471467621ab7b9c525618003607a3716e26cd6812bb72824da60ffd715053b3a"), looks := true }, kinds := [], alts := [], laidByText := true, laidKinds := [.data, .data, .data, .data, .pinned], laidTests := true, laidLooks := .later }
def TopWrongUptoCardSaid : Prop := Claim7.holds Tryz.pinned (.plain (OpenSpec.upto topWrongSpec)) topWrongUptoCard
end Rows
end Go.Proofs.YtdgneofhcenhfaaGreatDoor
