/-
  DERIVED. GIVEN WITH THE SEED: THE CARDS: each row of YtpcfnkmljchiiaaDoorRows.lean that lists a variable, with what it lists TIED to the program's text (the seventh form; the later family's looks); each row that meets fmt, with fmt's text TOLD by the authors' own Lean function (tested against real Go, not proved from fmt's source: count such statements apart). THE CARD IS WHAT COUNTS. Prove the row's statement (the work); the ties are given (YtpcfnkmljchiiaaDoorTie.lean); close each card by the builder's one call (the guide's Derived/Test/ToyasCard.lean, 'card_holds'). Laid BY PROGRAM, IN A SANDBOX (cutbox-door.mjs). By AI agents, Wed Nov 11 2026. No macro, syntax, notation, axiom, sorry.
-/
import Derived.Test.YtpcfnkmljchiiaaDoorRows
import GoSem.ClaimSeven
namespace Go.Proofs.YtpcfnkmljchiiaaDoor
namespace Rows

/-- THE TIED CARD OF 'postbaglaw05.DiskNames'. -/
def diskNamesCard : Claim7 := { stood := { row := diskNamesRow, standIns := [], harness := (true, "fa0648cc53a9c7d4374571ca4796bcc9184e2106670f32a4fc4ffbadc116e98e"), looks := true }, kinds := [], alts := [], laidByText := true, laidKinds := [.sentinel, .sentinel, .sentinel, .sentinel, .sentinel, .sentinel, .sentinel, .sentinel, .sentinel, .sentinel, .sentinel, .sentinel, .sentinel], laidTests := true, laidLooks := .later }
def DiskNamesCardSaid : Prop := Claim7.holds Tryd.pinned (.plain (OpenSpec.ofChange diskNamesSpec)) diskNamesCard

/-- THE TIED CARD OF 'postbaglaw05.DiskRooms'. -/
def diskRoomsCard : Claim7 := { stood := { row := diskRoomsRow, standIns := [], harness := (true, "fa0648cc53a9c7d4374571ca4796bcc9184e2106670f32a4fc4ffbadc116e98e"), looks := true }, kinds := [], alts := [], laidByText := true, laidKinds := [.sentinel, .sentinel, .sentinel, .sentinel, .sentinel, .sentinel, .sentinel, .sentinel, .sentinel, .sentinel, .sentinel, .sentinel, .sentinel], laidTests := true, laidLooks := .later }
def DiskRoomsCardSaid : Prop := Claim7.holds Tryd.pinned (.plain (OpenSpec.ofChange diskRoomsSpec)) diskRoomsCard

/-- THE TIED CARD OF 'postbaglaw05.DiskSure'. -/
def diskSureCard : Claim7 := { stood := { row := diskSureRow, standIns := [], harness := (true, "fa0648cc53a9c7d4374571ca4796bcc9184e2106670f32a4fc4ffbadc116e98e"), looks := true }, kinds := [], alts := [], laidByText := true, laidKinds := [.sentinel, .sentinel, .sentinel, .sentinel, .sentinel, .sentinel, .sentinel, .sentinel, .sentinel, .sentinel, .sentinel, .sentinel, .sentinel], laidTests := true, laidLooks := .later }
def DiskSureCardSaid : Prop := Claim7.holds Tryd.pinned (.plain (OpenSpec.ofChange diskSureSpec)) diskSureCard

/-- THE SECOND FORM's CARD OF 'postbaglaw05.DiskNames'. -/
def diskNamesUptoCard : Claim7 := { stood := { row := diskNamesUptoRow, standIns := [], harness := (true, "fa0648cc53a9c7d4374571ca4796bcc9184e2106670f32a4fc4ffbadc116e98e"), looks := true }, kinds := [], alts := [], laidByText := true, laidKinds := [.sentinel, .sentinel, .sentinel, .sentinel, .sentinel, .sentinel, .sentinel, .sentinel, .sentinel, .sentinel, .sentinel, .sentinel, .sentinel], laidTests := true, laidLooks := .later }
def DiskNamesUptoCardSaid : Prop := Claim7.holds Tryd.pinned (.plain (OpenSpec.upto diskNamesSpec)) diskNamesUptoCard

/-- THE SECOND FORM's CARD OF 'postbaglaw05.DiskRooms'. -/
def diskRoomsUptoCard : Claim7 := { stood := { row := diskRoomsUptoRow, standIns := [], harness := (true, "fa0648cc53a9c7d4374571ca4796bcc9184e2106670f32a4fc4ffbadc116e98e"), looks := true }, kinds := [], alts := [], laidByText := true, laidKinds := [.sentinel, .sentinel, .sentinel, .sentinel, .sentinel, .sentinel, .sentinel, .sentinel, .sentinel, .sentinel, .sentinel, .sentinel, .sentinel], laidTests := true, laidLooks := .later }
def DiskRoomsUptoCardSaid : Prop := Claim7.holds Tryd.pinned (.plain (OpenSpec.upto diskRoomsSpec)) diskRoomsUptoCard

/-- THE SECOND FORM's CARD OF 'postbaglaw05.DiskSure'. -/
def diskSureUptoCard : Claim7 := { stood := { row := diskSureUptoRow, standIns := [], harness := (true, "fa0648cc53a9c7d4374571ca4796bcc9184e2106670f32a4fc4ffbadc116e98e"), looks := true }, kinds := [], alts := [], laidByText := true, laidKinds := [.sentinel, .sentinel, .sentinel, .sentinel, .sentinel, .sentinel, .sentinel, .sentinel, .sentinel, .sentinel, .sentinel, .sentinel, .sentinel], laidTests := true, laidLooks := .later }
def DiskSureUptoCardSaid : Prop := Claim7.holds Tryd.pinned (.plain (OpenSpec.upto diskSureSpec)) diskSureUptoCard
end Rows
end Go.Proofs.YtpcfnkmljchiiaaDoor
