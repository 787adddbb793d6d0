/-
  DERIVED. GIVEN WITH THE SEED: THE CARDS: each row of YtpcfnkmljchiiaaGreatDoorRows.lean that lists a variable, with what it lists TIED to the program's text (the seventh form; the later family's looks); each row that meets fmt, with fmt's text TOLD by the authors' own Lean function (tested against real Go, not proved from fmt's source: count such statements apart). THE CARD IS WHAT COUNTS. Prove the row's statement (the work); the ties are given (YtpcfnkmljchiiaaGreatDoorTie.lean); close each card by the builder's one call (the guide's Derived/Test/ToyasCard.lean, 'card_holds'). Laid BY PROGRAM, IN A SANDBOX (cutbox-door.mjs). By AI agents, Wed Nov 11 2026. No macro, syntax, notation, axiom, sorry.
-/
import Derived.Test.YtpcfnkmljchiiaaGreatDoorRows
import GoSem.ClaimSeven
namespace Go.Proofs.YtpcfnkmljchiiaaGreatDoor
namespace Rows

/-- THE TIED CARD OF 'postbaglaw05.DiskAll'. -/
def diskAllCard : Claim7 := { stood := { row := diskAllRow, standIns := [], harness := (true, "6f459c8cae83aed036df1daef5f4dc6dbb733ad49a497ff696ae2be983f944ec"), looks := true }, kinds := [], alts := [], laidByText := true, laidKinds := [.sentinel, .sentinel, .sentinel, .sentinel, .sentinel, .sentinel, .sentinel, .sentinel, .sentinel, .sentinel, .sentinel, .sentinel, .sentinel], laidTests := true, laidLooks := .later }
def DiskAllCardSaid : Prop := Claim7.holds Tryz.pinned (.plain (OpenSpec.ofChange diskAllSpec)) diskAllCard

/-- THE TIED CARD OF 'postbaglaw06.RedoBytes'. -/
def redoBytesCard : Claim7 := { stood := { row := redoBytesRow, standIns := [], harness := (true, "6f459c8cae83aed036df1daef5f4dc6dbb733ad49a497ff696ae2be983f944ec"), looks := true }, kinds := [], alts := [], laidByText := true, laidKinds := [.sentinel, .sentinel, .sentinel, .sentinel, .sentinel, .sentinel, .sentinel, .sentinel, .sentinel, .sentinel, .sentinel, .sentinel, .sentinel], laidTests := true, laidLooks := .later }
def RedoBytesCardSaid : Prop := Claim7.holds Tryz.pinned (.plain (OpenSpec.ofChange redoBytesSpec)) redoBytesCard

/-- THE TIED CARD OF 'postbaglaw06.RedoReads'. -/
def redoReadsCard : Claim7 := { stood := { row := redoReadsRow, standIns := [], harness := (true, "6f459c8cae83aed036df1daef5f4dc6dbb733ad49a497ff696ae2be983f944ec"), looks := true }, kinds := [], alts := [], laidByText := true, laidKinds := [.sentinel, .sentinel, .sentinel, .sentinel, .sentinel, .sentinel, .sentinel, .sentinel, .sentinel, .sentinel, .sentinel, .sentinel, .sentinel], laidTests := true, laidLooks := .later }
def RedoReadsCardSaid : Prop := Claim7.holds Tryz.pinned (.plain (OpenSpec.ofChange redoReadsSpec)) redoReadsCard

/-- THE TIED CARD OF 'postbaglaw06.RedoWhole'. -/
def redoWholeCard : Claim7 := { stood := { row := redoWholeRow, standIns := [], harness := (true, "6f459c8cae83aed036df1daef5f4dc6dbb733ad49a497ff696ae2be983f944ec"), looks := true }, kinds := [], alts := [], laidByText := true, laidKinds := [.sentinel, .sentinel, .sentinel, .sentinel, .sentinel, .sentinel, .sentinel, .sentinel, .sentinel, .sentinel, .sentinel, .sentinel, .sentinel], laidTests := true, laidLooks := .later }
def RedoWholeCardSaid : Prop := Claim7.holds Tryz.pinned (.plain (OpenSpec.ofChange redoWholeSpec)) redoWholeCard

/-- THE SECOND FORM's CARD OF 'postbaglaw05.DiskAll'. -/
def diskAllUptoCard : Claim7 := { stood := { row := diskAllUptoRow, standIns := [], harness := (true, "6f459c8cae83aed036df1daef5f4dc6dbb733ad49a497ff696ae2be983f944ec"), looks := true }, kinds := [], alts := [], laidByText := true, laidKinds := [.sentinel, .sentinel, .sentinel, .sentinel, .sentinel, .sentinel, .sentinel, .sentinel, .sentinel, .sentinel, .sentinel, .sentinel, .sentinel], laidTests := true, laidLooks := .later }
def DiskAllUptoCardSaid : Prop := Claim7.holds Tryz.pinned (.plain (OpenSpec.upto diskAllSpec)) diskAllUptoCard

/-- THE SECOND FORM's CARD OF 'postbaglaw06.RedoBytes'. -/
def redoBytesUptoCard : Claim7 := { stood := { row := redoBytesUptoRow, standIns := [], harness := (true, "6f459c8cae83aed036df1daef5f4dc6dbb733ad49a497ff696ae2be983f944ec"), looks := true }, kinds := [], alts := [], laidByText := true, laidKinds := [.sentinel, .sentinel, .sentinel, .sentinel, .sentinel, .sentinel, .sentinel, .sentinel, .sentinel, .sentinel, .sentinel, .sentinel, .sentinel], laidTests := true, laidLooks := .later }
def RedoBytesUptoCardSaid : Prop := Claim7.holds Tryz.pinned (.plain (OpenSpec.upto redoBytesSpec)) redoBytesUptoCard

/-- THE SECOND FORM's CARD OF 'postbaglaw06.RedoReads'. -/
def redoReadsUptoCard : Claim7 := { stood := { row := redoReadsUptoRow, standIns := [], harness := (true, "6f459c8cae83aed036df1daef5f4dc6dbb733ad49a497ff696ae2be983f944ec"), looks := true }, kinds := [], alts := [], laidByText := true, laidKinds := [.sentinel, .sentinel, .sentinel, .sentinel, .sentinel, .sentinel, .sentinel, .sentinel, .sentinel, .sentinel, .sentinel, .sentinel, .sentinel], laidTests := true, laidLooks := .later }
def RedoReadsUptoCardSaid : Prop := Claim7.holds Tryz.pinned (.plain (OpenSpec.upto redoReadsSpec)) redoReadsUptoCard

/-- THE SECOND FORM's CARD OF 'postbaglaw06.RedoWhole'. -/
def redoWholeUptoCard : Claim7 := { stood := { row := redoWholeUptoRow, standIns := [], harness := (true, "6f459c8cae83aed036df1daef5f4dc6dbb733ad49a497ff696ae2be983f944ec"), looks := true }, kinds := [], alts := [], laidByText := true, laidKinds := [.sentinel, .sentinel, .sentinel, .sentinel, .sentinel, .sentinel, .sentinel, .sentinel, .sentinel, .sentinel, .sentinel, .sentinel, .sentinel], laidTests := true, laidLooks := .later }
def RedoWholeUptoCardSaid : Prop := Claim7.holds Tryz.pinned (.plain (OpenSpec.upto redoWholeSpec)) redoWholeUptoCard
end Rows
end Go.Proofs.YtpcfnkmljchiiaaGreatDoor
