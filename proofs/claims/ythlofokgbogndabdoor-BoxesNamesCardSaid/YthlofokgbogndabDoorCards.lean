/-
  DERIVED. GIVEN WITH THE SEED: THE CARDS: each row of YthlofokgbogndabDoorRows.lean that lists a variable, with what it lists TIED to the program's text (the seventh form; the later family's looks); each row that meets fmt, with fmt's text TOLD by the authors' own Lean function (tested against real Go, not proved from fmt's source: count such statements apart). THE CARD IS WHAT COUNTS. Prove the row's statement (the work); the ties are given (YthlofokgbogndabDoorTie.lean); close each card by the builder's one call (the guide's Derived/Test/ToyasCard.lean, 'card_holds'). Laid BY PROGRAM, IN A SANDBOX (cutbox-door.mjs). By AI agents, Wed Nov 11 2026. No macro, syntax, notation, axiom, sorry.
-/
import Derived.Test.YthlofokgbogndabDoorRows
import GoSem.ClaimSeven
namespace Go.Proofs.YthlofokgbogndabDoor
namespace Rows

/-- THE TIED CARD OF 'postbaglaw13.BoxesUnder'. -/
def boxesUnderCard : Claim7 := { stood := { row := boxesUnderRow, standIns := [], harness := (true, "6d8ed9dea8bb8376cbc2fad1cd15a08c716ac453de3b2bd8c85bf6ff06b224e0"), looks := true }, kinds := [], alts := [], laidByText := true, laidKinds := [.data, .sentinel, .pinned], laidTests := true, laidLooks := .later }
def BoxesUnderCardSaid : Prop := Claim7.holds Tryd.pinned (.plain (OpenSpec.ofChange boxesUnderSpec)) boxesUnderCard

/-- THE TIED CARD OF 'postbaglaw13.BoxesNames'. -/
def boxesNamesCard : Claim7 := { stood := { row := boxesNamesRow, standIns := [], harness := (true, "6d8ed9dea8bb8376cbc2fad1cd15a08c716ac453de3b2bd8c85bf6ff06b224e0"), looks := true }, kinds := [], alts := [], laidByText := true, laidKinds := [.data, .sentinel, .sentinel, .sentinel, .sentinel, .sentinel, .sentinel, .sentinel, .sentinel, .sentinel, .sentinel, .sentinel, .sentinel, .sentinel, .pinned], laidTests := true, laidLooks := .later }
def BoxesNamesCardSaid : Prop := Claim7.holds Tryd.pinned (.plain (OpenSpec.ofChange boxesNamesSpec)) boxesNamesCard

/-- THE SECOND FORM's CARD OF 'postbaglaw13.BoxesUnder'. -/
def boxesUnderUptoCard : Claim7 := { stood := { row := boxesUnderUptoRow, standIns := [], harness := (true, "6d8ed9dea8bb8376cbc2fad1cd15a08c716ac453de3b2bd8c85bf6ff06b224e0"), looks := true }, kinds := [], alts := [], laidByText := true, laidKinds := [.data, .sentinel, .pinned], laidTests := true, laidLooks := .later }
def BoxesUnderUptoCardSaid : Prop := Claim7.holds Tryd.pinned (.plain (OpenSpec.upto boxesUnderSpec)) boxesUnderUptoCard

/-- THE SECOND FORM's CARD OF 'postbaglaw13.BoxesNames'. -/
def boxesNamesUptoCard : Claim7 := { stood := { row := boxesNamesUptoRow, standIns := [], harness := (true, "6d8ed9dea8bb8376cbc2fad1cd15a08c716ac453de3b2bd8c85bf6ff06b224e0"), looks := true }, kinds := [], alts := [], laidByText := true, laidKinds := [.data, .sentinel, .sentinel, .sentinel, .sentinel, .sentinel, .sentinel, .sentinel, .sentinel, .sentinel, .sentinel, .sentinel, .sentinel, .sentinel, .pinned], laidTests := true, laidLooks := .later }
def BoxesNamesUptoCardSaid : Prop := Claim7.holds Tryd.pinned (.plain (OpenSpec.upto boxesNamesSpec)) boxesNamesUptoCard
end Rows
end Go.Proofs.YthlofokgbogndabDoor
