/-
  DERIVED. GIVEN WITH THE SEED: THE CARDS: each row of YtlaahakobghmhaaDoorRows.lean that lists a variable, with what it lists TIED to the program's text (the seventh form; the later family's looks); each row that meets fmt, with fmt's text TOLD by the authors' own Lean function (tested against real Go, not proved from fmt's source: count such statements apart). THE CARD IS WHAT COUNTS. Prove the row's statement (the work); the ties are given (YtlaahakobghmhaaDoorTie.lean); close each card by the builder's one call (the guide's Derived/Test/ToyasCard.lean, 'card_holds'). Laid BY PROGRAM, IN A SANDBOX (cutbox-door.mjs). By AI agents, Wed Nov 11 2026. No macro, syntax, notation, axiom, sorry.
-/
import Derived.Test.YtlaahakobghmhaaDoorRows
import GoSem.ClaimSeven
namespace Go.Proofs.YtlaahakobghmhaaDoor
namespace Rows

/-- THE TIED CARD OF 'tidewaterlaw04.WrapSteps'. -/
def wrapStepsCard : Claim7 := { stood := { row := wrapStepsRow, standIns := [], harness := (true, "e68bc682110b81b6055e4ee188e29bb3e966e7f62d875d9d6709e71b6e79fd1f"), looks := false }, kinds := [], alts := [], laidByText := true, laidKinds := [.data, .data, .data], laidTests := true, laidLooks := .later }
def WrapStepsCardSaid : Prop := Claim7.holds Tryd.pinned (.plain (OpenSpec.ofChange wrapStepsSpec)) wrapStepsCard

/-- THE TIED CARD OF 'tidewaterlaw04.WrapBack'. -/
def wrapBackCard : Claim7 := { stood := { row := wrapBackRow, standIns := [], harness := (true, "e68bc682110b81b6055e4ee188e29bb3e966e7f62d875d9d6709e71b6e79fd1f"), looks := false }, kinds := [], alts := [], laidByText := true, laidKinds := [.data, .data, .data], laidTests := true, laidLooks := .later }
def WrapBackCardSaid : Prop := Claim7.holds Tryd.pinned (.plain (OpenSpec.ofChange wrapBackSpec)) wrapBackCard

/-- THE TIED CARD OF 'tidewaterlaw04.WrapOrder'. -/
def wrapOrderCard : Claim7 := { stood := { row := wrapOrderRow, standIns := [], harness := (true, "e68bc682110b81b6055e4ee188e29bb3e966e7f62d875d9d6709e71b6e79fd1f"), looks := false }, kinds := [], alts := [], laidByText := true, laidKinds := [.data, .data, .data], laidTests := true, laidLooks := .later }
def WrapOrderCardSaid : Prop := Claim7.holds Tryd.pinned (.plain (OpenSpec.ofChange wrapOrderSpec)) wrapOrderCard

/-- THE TIED CARD OF 'tidewaterlaw04.WrapTexts'. -/
def wrapTextsCard : Claim7 := { stood := { row := wrapTextsRow, standIns := [], harness := (true, "e68bc682110b81b6055e4ee188e29bb3e966e7f62d875d9d6709e71b6e79fd1f"), looks := false }, kinds := [], alts := [], laidByText := true, laidKinds := [.data, .data, .data], laidTests := true, laidLooks := .later }
def WrapTextsCardSaid : Prop := Claim7.holds Tryd.pinned (.plain (OpenSpec.ofChange wrapTextsSpec)) wrapTextsCard

/-- THE TIED CARD OF 'tidewaterlaw04.WrapBetween'. -/
def wrapBetweenCard : Claim7 := { stood := { row := wrapBetweenRow, standIns := [], harness := (true, "e68bc682110b81b6055e4ee188e29bb3e966e7f62d875d9d6709e71b6e79fd1f"), looks := false }, kinds := [], alts := [], laidByText := true, laidKinds := [.data, .data, .data], laidTests := true, laidLooks := .later }
def WrapBetweenCardSaid : Prop := Claim7.holds Tryd.pinned (.plain (OpenSpec.ofChange wrapBetweenSpec)) wrapBetweenCard

/-- THE TIED CARD OF 'tidewaterlaw04.WrapRound'. -/
def wrapRoundCard : Claim7 := { stood := { row := wrapRoundRow, standIns := [], harness := (true, "e68bc682110b81b6055e4ee188e29bb3e966e7f62d875d9d6709e71b6e79fd1f"), looks := false }, kinds := [], alts := [], laidByText := true, laidKinds := [.data, .data, .data], laidTests := true, laidLooks := .later }
def WrapRoundCardSaid : Prop := Claim7.holds Tryd.pinned (.plain (OpenSpec.ofChange wrapRoundSpec)) wrapRoundCard

/-- THE SECOND FORM's CARD OF 'tidewaterlaw04.WrapSteps'. -/
def wrapStepsUptoCard : Claim7 := { stood := { row := wrapStepsUptoRow, standIns := [], harness := (true, "e68bc682110b81b6055e4ee188e29bb3e966e7f62d875d9d6709e71b6e79fd1f"), looks := false }, kinds := [], alts := [], laidByText := true, laidKinds := [.data, .data, .data], laidTests := true, laidLooks := .later }
def WrapStepsUptoCardSaid : Prop := Claim7.holds Tryd.pinned (.plain (OpenSpec.upto wrapStepsSpec)) wrapStepsUptoCard

/-- THE SECOND FORM's CARD OF 'tidewaterlaw04.WrapBack'. -/
def wrapBackUptoCard : Claim7 := { stood := { row := wrapBackUptoRow, standIns := [], harness := (true, "e68bc682110b81b6055e4ee188e29bb3e966e7f62d875d9d6709e71b6e79fd1f"), looks := false }, kinds := [], alts := [], laidByText := true, laidKinds := [.data, .data, .data], laidTests := true, laidLooks := .later }
def WrapBackUptoCardSaid : Prop := Claim7.holds Tryd.pinned (.plain (OpenSpec.upto wrapBackSpec)) wrapBackUptoCard

/-- THE SECOND FORM's CARD OF 'tidewaterlaw04.WrapOrder'. -/
def wrapOrderUptoCard : Claim7 := { stood := { row := wrapOrderUptoRow, standIns := [], harness := (true, "e68bc682110b81b6055e4ee188e29bb3e966e7f62d875d9d6709e71b6e79fd1f"), looks := false }, kinds := [], alts := [], laidByText := true, laidKinds := [.data, .data, .data], laidTests := true, laidLooks := .later }
def WrapOrderUptoCardSaid : Prop := Claim7.holds Tryd.pinned (.plain (OpenSpec.upto wrapOrderSpec)) wrapOrderUptoCard

/-- THE SECOND FORM's CARD OF 'tidewaterlaw04.WrapTexts'. -/
def wrapTextsUptoCard : Claim7 := { stood := { row := wrapTextsUptoRow, standIns := [], harness := (true, "e68bc682110b81b6055e4ee188e29bb3e966e7f62d875d9d6709e71b6e79fd1f"), looks := false }, kinds := [], alts := [], laidByText := true, laidKinds := [.data, .data, .data], laidTests := true, laidLooks := .later }
def WrapTextsUptoCardSaid : Prop := Claim7.holds Tryd.pinned (.plain (OpenSpec.upto wrapTextsSpec)) wrapTextsUptoCard

/-- THE SECOND FORM's CARD OF 'tidewaterlaw04.WrapBetween'. -/
def wrapBetweenUptoCard : Claim7 := { stood := { row := wrapBetweenUptoRow, standIns := [], harness := (true, "e68bc682110b81b6055e4ee188e29bb3e966e7f62d875d9d6709e71b6e79fd1f"), looks := false }, kinds := [], alts := [], laidByText := true, laidKinds := [.data, .data, .data], laidTests := true, laidLooks := .later }
def WrapBetweenUptoCardSaid : Prop := Claim7.holds Tryd.pinned (.plain (OpenSpec.upto wrapBetweenSpec)) wrapBetweenUptoCard

/-- THE SECOND FORM's CARD OF 'tidewaterlaw04.WrapRound'. -/
def wrapRoundUptoCard : Claim7 := { stood := { row := wrapRoundUptoRow, standIns := [], harness := (true, "e68bc682110b81b6055e4ee188e29bb3e966e7f62d875d9d6709e71b6e79fd1f"), looks := false }, kinds := [], alts := [], laidByText := true, laidKinds := [.data, .data, .data], laidTests := true, laidLooks := .later }
def WrapRoundUptoCardSaid : Prop := Claim7.holds Tryd.pinned (.plain (OpenSpec.upto wrapRoundSpec)) wrapRoundUptoCard
end Rows
end Go.Proofs.YtlaahakobghmhaaDoor
