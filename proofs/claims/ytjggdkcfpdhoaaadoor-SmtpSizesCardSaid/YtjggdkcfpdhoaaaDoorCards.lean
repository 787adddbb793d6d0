/-
  DERIVED. GIVEN WITH THE SEED: THE CARDS: each row of YtjggdkcfpdhoaaaDoorRows.lean that lists a variable, with what it lists TIED to the program's text (the seventh form; the later family's looks); each row that meets fmt, with fmt's text TOLD by the authors' own Lean function (tested against real Go, not proved from fmt's source: count such statements apart). THE CARD IS WHAT COUNTS. Prove the row's statement (the work); the ties are given (YtjggdkcfpdhoaaaDoorTie.lean); close each card by the builder's one call (the guide's Derived/Test/ToyasCard.lean, 'card_holds'). Laid BY PROGRAM, IN A SANDBOX (cutbox-door.mjs). By AI agents, Wed Nov 11 2026. No macro, syntax, notation, axiom, sorry.
-/
import Derived.Test.YtjggdkcfpdhoaaaDoorRows
import GoSem.ClaimSeven
namespace Go.Proofs.YtjggdkcfpdhoaaaDoor
namespace Rows

/-- THE TIED CARD OF 'postbaglaw19.SmtpLetters'. -/
def smtpLettersCard : Claim7 := { stood := { row := smtpLettersRow, standIns := [], harness := (true, "f5223aab4851442d2005eceb40316dc3186f36da944faced7fdd4868213e41e7"), looks := true }, kinds := [], alts := [], laidByText := true, laidKinds := [.data, .data, .data, .data, .sentinel, .sentinel, .sentinel, .sentinel, .pinned], laidTests := true, laidLooks := .later }
def SmtpLettersCardSaid : Prop := Claim7.holds Tryd.pinned (.plain (OpenSpec.ofChange smtpLettersSpec)) smtpLettersCard

/-- THE TIED CARD OF 'postbaglaw19.SmtpSizes'. -/
def smtpSizesCard : Claim7 := { stood := { row := smtpSizesRow, standIns := [], harness := (true, "f5223aab4851442d2005eceb40316dc3186f36da944faced7fdd4868213e41e7"), looks := true }, kinds := [], alts := [], laidByText := true, laidKinds := [.data, .data, .data, .data, .sentinel, .sentinel, .sentinel, .sentinel, .pinned], laidTests := true, laidLooks := .later }
def SmtpSizesCardSaid : Prop := Claim7.holds Tryd.pinned (.plain (OpenSpec.ofChange smtpSizesSpec)) smtpSizesCard

/-- THE TIED CARD OF 'postbaglaw19.SmtpCodes'. -/
def smtpCodesCard : Claim7 := { stood := { row := smtpCodesRow, standIns := [], harness := (true, "f5223aab4851442d2005eceb40316dc3186f36da944faced7fdd4868213e41e7"), looks := true }, kinds := [], alts := [], laidByText := true, laidKinds := [.data, .data, .data, .data, .sentinel, .sentinel, .sentinel, .sentinel, .pinned], laidTests := true, laidLooks := .later }
def SmtpCodesCardSaid : Prop := Claim7.holds Tryd.pinned (.plain (OpenSpec.ofChange smtpCodesSpec)) smtpCodesCard

/-- THE TIED CARD OF 'postbaglaw19.SmtpDots'. -/
def smtpDotsCard : Claim7 := { stood := { row := smtpDotsRow, standIns := [], harness := (true, "f5223aab4851442d2005eceb40316dc3186f36da944faced7fdd4868213e41e7"), looks := true }, kinds := [], alts := [], laidByText := true, laidKinds := [.data, .data, .data, .data, .sentinel, .sentinel, .sentinel, .sentinel, .pinned], laidTests := true, laidLooks := .later }
def SmtpDotsCardSaid : Prop := Claim7.holds Tryd.pinned (.plain (OpenSpec.ofChange smtpDotsSpec)) smtpDotsCard

/-- THE SECOND FORM's CARD OF 'postbaglaw19.SmtpLetters'. -/
def smtpLettersUptoCard : Claim7 := { stood := { row := smtpLettersUptoRow, standIns := [], harness := (true, "f5223aab4851442d2005eceb40316dc3186f36da944faced7fdd4868213e41e7"), looks := true }, kinds := [], alts := [], laidByText := true, laidKinds := [.data, .data, .data, .data, .sentinel, .sentinel, .sentinel, .sentinel, .pinned], laidTests := true, laidLooks := .later }
def SmtpLettersUptoCardSaid : Prop := Claim7.holds Tryd.pinned (.plain (OpenSpec.upto smtpLettersSpec)) smtpLettersUptoCard

/-- THE SECOND FORM's CARD OF 'postbaglaw19.SmtpSizes'. -/
def smtpSizesUptoCard : Claim7 := { stood := { row := smtpSizesUptoRow, standIns := [], harness := (true, "f5223aab4851442d2005eceb40316dc3186f36da944faced7fdd4868213e41e7"), looks := true }, kinds := [], alts := [], laidByText := true, laidKinds := [.data, .data, .data, .data, .sentinel, .sentinel, .sentinel, .sentinel, .pinned], laidTests := true, laidLooks := .later }
def SmtpSizesUptoCardSaid : Prop := Claim7.holds Tryd.pinned (.plain (OpenSpec.upto smtpSizesSpec)) smtpSizesUptoCard

/-- THE SECOND FORM's CARD OF 'postbaglaw19.SmtpCodes'. -/
def smtpCodesUptoCard : Claim7 := { stood := { row := smtpCodesUptoRow, standIns := [], harness := (true, "f5223aab4851442d2005eceb40316dc3186f36da944faced7fdd4868213e41e7"), looks := true }, kinds := [], alts := [], laidByText := true, laidKinds := [.data, .data, .data, .data, .sentinel, .sentinel, .sentinel, .sentinel, .pinned], laidTests := true, laidLooks := .later }
def SmtpCodesUptoCardSaid : Prop := Claim7.holds Tryd.pinned (.plain (OpenSpec.upto smtpCodesSpec)) smtpCodesUptoCard

/-- THE SECOND FORM's CARD OF 'postbaglaw19.SmtpDots'. -/
def smtpDotsUptoCard : Claim7 := { stood := { row := smtpDotsUptoRow, standIns := [], harness := (true, "f5223aab4851442d2005eceb40316dc3186f36da944faced7fdd4868213e41e7"), looks := true }, kinds := [], alts := [], laidByText := true, laidKinds := [.data, .data, .data, .data, .sentinel, .sentinel, .sentinel, .sentinel, .pinned], laidTests := true, laidLooks := .later }
def SmtpDotsUptoCardSaid : Prop := Claim7.holds Tryd.pinned (.plain (OpenSpec.upto smtpDotsSpec)) smtpDotsUptoCard
end Rows
end Go.Proofs.YtjggdkcfpdhoaaaDoor
