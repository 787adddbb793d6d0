/-
  DERIVED. GIVEN WITH THE SEED: THE CARDS: each row of YtjggdkcfpdhoaaaGreatDoorRows.lean that lists a variable, with what it lists TIED to the program's text (the seventh form; the later family's looks); each row that meets fmt, with fmt's text TOLD by the authors' own Lean function (tested against real Go, not proved from fmt's source: count such statements apart). THE CARD IS WHAT COUNTS. Prove the row's statement (the work); the ties are given (YtjggdkcfpdhoaaaGreatDoorTie.lean); close each card by the builder's one call (the guide's Derived/Test/ToyasCard.lean, 'card_holds'). Laid BY PROGRAM, IN A SANDBOX (cutbox-door.mjs). By AI agents, Wed Nov 11 2026. No macro, syntax, notation, axiom, sorry.
-/
import Derived.Test.YtjggdkcfpdhoaaaGreatDoorRows
import GoSem.ClaimSeven
namespace Go.Proofs.YtjggdkcfpdhoaaaGreatDoor
namespace Rows

/-- THE TIED CARD OF 'postbaglaw19.SmtpParses'. -/
def smtpParsesCard : Claim7 := { stood := { row := smtpParsesRow, standIns := [], harness := (true, "1ee871cadff45d7ef93470fb5f6ae7c4b4e04d3a56e5636232b7588f8a15e540"), looks := true }, kinds := [], alts := [], laidByText := true, laidKinds := [.data, .data, .data, .data, .sentinel, .sentinel, .sentinel, .sentinel, .pinned], laidTests := true, laidLooks := .later }
def SmtpParsesCardSaid : Prop := Claim7.holds Tryz.pinned (.plain (OpenSpec.ofChange smtpParsesSpec)) smtpParsesCard

/-- THE TIED CARD OF 'postbaglaw19.SmtpReplies'. -/
def smtpRepliesCard : Claim7 := { stood := { row := smtpRepliesRow, standIns := [], harness := (true, "1ee871cadff45d7ef93470fb5f6ae7c4b4e04d3a56e5636232b7588f8a15e540"), looks := true }, kinds := [], alts := [], laidByText := true, laidKinds := [.data, .data, .data, .data, .sentinel, .sentinel, .sentinel, .sentinel, .sentinel, .sentinel, .sentinel, .sentinel, .sentinel, .sentinel, .sentinel, .sentinel, .sentinel, .sentinel, .sentinel, .pinned], laidTests := true, laidLooks := .later }
def SmtpRepliesCardSaid : Prop := Claim7.holds Tryz.pinned (.plain (OpenSpec.ofChange smtpRepliesSpec)) smtpRepliesCard

/-- THE TIED CARD OF 'postbaglaw19.SmtpTexts'. -/
def smtpTextsCard : Claim7 := { stood := { row := smtpTextsRow, standIns := [], harness := (true, "1ee871cadff45d7ef93470fb5f6ae7c4b4e04d3a56e5636232b7588f8a15e540"), looks := true }, kinds := [], alts := [], laidByText := true, laidKinds := [.data, .data, .data, .data, .sentinel, .sentinel, .sentinel, .sentinel, .sentinel, .sentinel, .sentinel, .sentinel, .sentinel, .sentinel, .sentinel, .sentinel, .sentinel, .sentinel, .sentinel, .pinned], laidTests := true, laidLooks := .later }
def SmtpTextsCardSaid : Prop := Claim7.holds Tryz.pinned (.plain (OpenSpec.ofChange smtpTextsSpec)) smtpTextsCard

/-- THE SECOND FORM's CARD OF 'postbaglaw19.SmtpParses'. -/
def smtpParsesUptoCard : Claim7 := { stood := { row := smtpParsesUptoRow, standIns := [], harness := (true, "1ee871cadff45d7ef93470fb5f6ae7c4b4e04d3a56e5636232b7588f8a15e540"), looks := true }, kinds := [], alts := [], laidByText := true, laidKinds := [.data, .data, .data, .data, .sentinel, .sentinel, .sentinel, .sentinel, .pinned], laidTests := true, laidLooks := .later }
def SmtpParsesUptoCardSaid : Prop := Claim7.holds Tryz.pinned (.plain (OpenSpec.upto smtpParsesSpec)) smtpParsesUptoCard

/-- THE SECOND FORM's CARD OF 'postbaglaw19.SmtpReplies'. -/
def smtpRepliesUptoCard : Claim7 := { stood := { row := smtpRepliesUptoRow, standIns := [], harness := (true, "1ee871cadff45d7ef93470fb5f6ae7c4b4e04d3a56e5636232b7588f8a15e540"), looks := true }, kinds := [], alts := [], laidByText := true, laidKinds := [.data, .data, .data, .data, .sentinel, .sentinel, .sentinel, .sentinel, .sentinel, .sentinel, .sentinel, .sentinel, .sentinel, .sentinel, .sentinel, .sentinel, .sentinel, .sentinel, .sentinel, .pinned], laidTests := true, laidLooks := .later }
def SmtpRepliesUptoCardSaid : Prop := Claim7.holds Tryz.pinned (.plain (OpenSpec.upto smtpRepliesSpec)) smtpRepliesUptoCard

/-- THE SECOND FORM's CARD OF 'postbaglaw19.SmtpTexts'. -/
def smtpTextsUptoCard : Claim7 := { stood := { row := smtpTextsUptoRow, standIns := [], harness := (true, "1ee871cadff45d7ef93470fb5f6ae7c4b4e04d3a56e5636232b7588f8a15e540"), looks := true }, kinds := [], alts := [], laidByText := true, laidKinds := [.data, .data, .data, .data, .sentinel, .sentinel, .sentinel, .sentinel, .sentinel, .sentinel, .sentinel, .sentinel, .sentinel, .sentinel, .sentinel, .sentinel, .sentinel, .sentinel, .sentinel, .pinned], laidTests := true, laidLooks := .later }
def SmtpTextsUptoCardSaid : Prop := Claim7.holds Tryz.pinned (.plain (OpenSpec.upto smtpTextsSpec)) smtpTextsUptoCard
end Rows
end Go.Proofs.YtjggdkcfpdhoaaaGreatDoor
