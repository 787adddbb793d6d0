/-
  DERIVED. GIVEN WITH THE SEED: THE CARDS: each row of YthlofokgbogndaaDoorRows.lean that lists a variable, with what it lists TIED to the program's text (the seventh form; the later family's looks); each row that meets fmt, with fmt's text TOLD by the authors' own Lean function (tested against real Go, not proved from fmt's source: count such statements apart). THE CARD IS WHAT COUNTS. Prove the row's statement (the work); the ties are given (YthlofokgbogndaaDoorTie.lean); close each card by the builder's one call (the guide's Derived/Test/ToyasCard.lean, 'card_holds'). Laid BY PROGRAM, IN A SANDBOX (cutbox-door.mjs). By AI agents, Wed Nov 11 2026. No macro, syntax, notation, axiom, sorry.
-/
import Derived.Test.YthlofokgbogndaaDoorRows
import GoSem.ClaimSeven
namespace Go.Proofs.YthlofokgbogndaaDoor
namespace Rows

/-- THE TIED CARD OF 'postbaglaw04.CheckRecords'. -/
def checkRecordsCard : Claim7 := { stood := { row := checkRecordsRow, standIns := [], harness := (true, "1afd1fe9ae475c7c530b6f411cb8b60bb6e58dfaffe6d3a5125adf8390f06481"), looks := false }, kinds := [], alts := [], laidByText := true, laidKinds := [.sentinel], laidTests := true, laidLooks := .later }
def CheckRecordsCardSaid : Prop := Claim7.holds Tryd.pinned (.plain (OpenSpec.ofChange checkRecordsSpec)) checkRecordsCard

/-- THE TIED CARD OF 'postbaglaw04.CheckSpoilt'. -/
def checkSpoiltCard : Claim7 := { stood := { row := checkSpoiltRow, standIns := [], harness := (true, "1afd1fe9ae475c7c530b6f411cb8b60bb6e58dfaffe6d3a5125adf8390f06481"), looks := false }, kinds := [], alts := [], laidByText := true, laidKinds := [.sentinel], laidTests := true, laidLooks := .later }
def CheckSpoiltCardSaid : Prop := Claim7.holds Tryd.pinned (.plain (OpenSpec.ofChange checkSpoiltSpec)) checkSpoiltCard

/-- THE SECOND FORM's CARD OF 'postbaglaw04.CheckRecords'. -/
def checkRecordsUptoCard : Claim7 := { stood := { row := checkRecordsUptoRow, standIns := [], harness := (true, "1afd1fe9ae475c7c530b6f411cb8b60bb6e58dfaffe6d3a5125adf8390f06481"), looks := false }, kinds := [], alts := [], laidByText := true, laidKinds := [.sentinel], laidTests := true, laidLooks := .later }
def CheckRecordsUptoCardSaid : Prop := Claim7.holds Tryd.pinned (.plain (OpenSpec.upto checkRecordsSpec)) checkRecordsUptoCard

/-- THE SECOND FORM's CARD OF 'postbaglaw04.CheckSpoilt'. -/
def checkSpoiltUptoCard : Claim7 := { stood := { row := checkSpoiltUptoRow, standIns := [], harness := (true, "1afd1fe9ae475c7c530b6f411cb8b60bb6e58dfaffe6d3a5125adf8390f06481"), looks := false }, kinds := [], alts := [], laidByText := true, laidKinds := [.sentinel], laidTests := true, laidLooks := .later }
def CheckSpoiltUptoCardSaid : Prop := Claim7.holds Tryd.pinned (.plain (OpenSpec.upto checkSpoiltSpec)) checkSpoiltUptoCard
end Rows
end Go.Proofs.YthlofokgbogndaaDoor
