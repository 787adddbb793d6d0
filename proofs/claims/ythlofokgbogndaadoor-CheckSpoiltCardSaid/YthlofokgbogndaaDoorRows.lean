/-
  NARROWER THAN 'FOR EVERY INPUT', by the rows' own cells (each row's printed sentence says how): CheckRecords: laid · CheckSpoilt: laid.
  DERIVED. THE GIVEN ROWS OF THIS SEAT. 2 by the template 'for every input the law returns true; each argument reads behind the call as it read before'; 0 by the template 'total and deterministic' (their statements: YthlofokgbogndaaDoorTotals.lean).
  GIVEN WITH THE SEED: the statements are not yours to turn. If you find one false, say at which input.
  Laid BY PROGRAM, IN A SANDBOX (cutbox-rows.mjs): the forced cells as the released guide's own fill.sh prints them over the translation 6002d6ff5b8bd588… (all of the seat's roots in one cut). By AI agents, Wed Nov 11 2026. No macro, syntax, notation, axiom, sorry.
-/
import Derived.Test.YthlofokgbogndaaDoorChecked
import GoSem.Claim
import GoSem.ClaimJoined
import GoSem.ClaimMapViews
import Derived.JoinedTies
import Derived.KernelRfl
namespace Go.Proofs.YthlofokgbogndaaDoor
/- THE CELL 'sum', in the pinned program and in every row, IS THE sha256 OF THE DUMP (.gsa) THAT YthlofokgbogndaaDoorProg.lean LOADS. Nothing in Lean hashes anything: it is a label: what it is worth is what the hold of that sum in a sandbox is worth. -/
noncomputable def Tryd.pinned : Pinned := { name := "ythlofokgbogndaadoor", sum := "6002d6ff5b8bd58884963559bbf12a6f6416cd90ed669f3844e7984158fc96af", checked := Tryd.checked }
namespace Rows
def none {H : Type} : Left H := { results := [], args := [] }

/- WHAT THE LISTED PACKAGE-LEVEL VARIABLES READ AS WHEN THE CALL BEGINS. Each datum BY PROGRAM (the guide's laid-datum.mjs) off the statement by which the dump's own 'gosem.cut.vars' lays the variable. In a bare row this is a premise. The card (YthlofokgbogndaaDoorCards.lean) ties it to the program's text. -/
def laid_postbag_api_ErrLong {H : Type} : DataW H := .iface "*errors.errorString" (.ptr (.agg [.lit (.string [112, 111, 115, 116, 98, 97, 103, 58, 32, 108, 111, 110, 103])]))

/-- 'postbaglaw04.CheckRecords': WHATEVER THE INPUT: true; the input reads as it did. -/
def checkRecordsSpec : ChangeSpec := { name := "checkRecords", fn := fun _ => fun
  | [d] => { results := [.lit (.bool true)], args := [d] }
  | _ => none }
def checkRecordsRow : OpenClaim := { program := "ythlofokgbogndaadoor", sum := "6002d6ff5b8bd58884963559bbf12a6f6416cd90ed669f3844e7984158fc96af", func := "postbag/postbaglaw04.CheckRecords", spec := "checkRecords", named := ["postbag/api.ErrLong"], apart := false, laid := [("postbag/api.ErrLong", laid_postbag_api_ErrLong)] }
def CheckRecordsSaid : Prop := checkRecordsRow.holds Tryd.pinned (OpenSpec.ofChange checkRecordsSpec)

/-- ITS FALSE NEIGHBOUR: 'it returns false'. Refute it at one input. -/
def checkRecordsWrong : ChangeSpec := { name := "checkRecords", fn := fun _ => fun
  | [d] => { results := [.lit (.bool false)], args := [d] }
  | _ => none }
def CheckRecordsWrongFalsely : Prop := checkRecordsRow.holds Tryd.pinned (OpenSpec.ofChange checkRecordsWrong)

/-- 'postbaglaw04.CheckSpoilt': WHATEVER THE INPUT: true; the input reads as it did. -/
def checkSpoiltSpec : ChangeSpec := { name := "checkSpoilt", fn := fun _ => fun
  | [d1, d2, d3] => { results := [.lit (.bool true)], args := [d1, d2, d3] }
  | _ => none }
def checkSpoiltRow : OpenClaim := { program := "ythlofokgbogndaadoor", sum := "6002d6ff5b8bd58884963559bbf12a6f6416cd90ed669f3844e7984158fc96af", func := "postbag/postbaglaw04.CheckSpoilt", spec := "checkSpoilt", named := ["postbag/api.ErrLong"], apart := false, laid := [("postbag/api.ErrLong", laid_postbag_api_ErrLong)] }
def CheckSpoiltSaid : Prop := checkSpoiltRow.holds Tryd.pinned (OpenSpec.ofChange checkSpoiltSpec)

/-- ITS FALSE NEIGHBOUR: 'it returns false'. Refute it at one input. -/
def checkSpoiltWrong : ChangeSpec := { name := "checkSpoilt", fn := fun _ => fun
  | [d1, d2, d3] => { results := [.lit (.bool false)], args := [d1, d2, d3] }
  | _ => none }
def CheckSpoiltWrongFalsely : Prop := checkSpoiltRow.holds Tryd.pinned (OpenSpec.ofChange checkSpoiltWrong)

/- THE SECOND FORM. 'bulk': how many values and letters a reading holds, each counted each time it is reached (what is shared counts as often as it is met; a slice's spare places count too). A statement '..UptoSaid' is the law's where the arguments, and the package variables that the reading takes, are together of bulk at most 1048576: NARROWER than '..Said'. Prove '..Said' where nothing that the law and all that it calls make is longer than what came in: it says more and counts as full. Else prove '..UptoSaid'. A law counts once. -/
mutual
def uptoBulk {H : Type} : DataW H → Nat
  | .lit (.string bytes) => bytes.length + 1
  | .lit _ => 1
  | .nil => 1
  | .ptr d => uptoBulk d + 1
  | .slice elems spare => uptoBulkAll elems + uptoBulkAll spare + 1
  | .agg parts => uptoBulkAll parts + 1
  | .iface _ d => uptoBulk d + 1
  | .map entries => uptoBulkEntries entries + 1
  | .held _ => 1
def uptoBulkAll {H : Type} : List (DataW H) → Nat
  | [] => 0
  | d :: r => uptoBulk d + uptoBulkAll r
def uptoBulkEntries {H : Type} : List (Lit × DataW H) → Nat
  | [] => 0
  | x :: r => uptoBulkEntry x + uptoBulkEntries r
def uptoBulkEntry {H : Type} : Lit × DataW H → Nat
  | (.string bytes, d) => bytes.length + uptoBulk d + 1
  | (_, d) => uptoBulk d + 1
 end
def uptoSmall : (H : Type) → List (DataW H) → Bool := fun _ ds => decide (uptoBulkAll ds ≤ 1048576)
def OpenSpec.upto (s : _root_.Go.ChangeSpec) : _root_.Go.OpenSpec := { _root_.Go.OpenSpec.ofChange s with cond := some uptoSmall }

/-- 'postbaglaw04.CheckRecords', WHERE WHAT IT READS IS OF BULK AT MOST 1048576: true; the input reads as it did. -/
def checkRecordsUptoRow : OpenClaim := { program := "ythlofokgbogndaadoor", sum := "6002d6ff5b8bd58884963559bbf12a6f6416cd90ed669f3844e7984158fc96af", func := "postbag/postbaglaw04.CheckRecords", spec := "checkRecords", named := ["postbag/api.ErrLong"], apart := false, laid := [("postbag/api.ErrLong", laid_postbag_api_ErrLong)], narrowed := true }
def CheckRecordsUptoSaid : Prop := checkRecordsUptoRow.holds Tryd.pinned (OpenSpec.upto checkRecordsSpec)

/-- 'postbaglaw04.CheckSpoilt', WHERE WHAT IT READS IS OF BULK AT MOST 1048576: true; the input reads as it did. -/
def checkSpoiltUptoRow : OpenClaim := { program := "ythlofokgbogndaadoor", sum := "6002d6ff5b8bd58884963559bbf12a6f6416cd90ed669f3844e7984158fc96af", func := "postbag/postbaglaw04.CheckSpoilt", spec := "checkSpoilt", named := ["postbag/api.ErrLong"], apart := false, laid := [("postbag/api.ErrLong", laid_postbag_api_ErrLong)], narrowed := true }
def CheckSpoiltUptoSaid : Prop := checkSpoiltUptoRow.holds Tryd.pinned (OpenSpec.upto checkSpoiltSpec)

end Rows
end Go.Proofs.YthlofokgbogndaaDoor
