/-
  NARROWER THAN 'FOR EVERY INPUT', by the rows' own cells (each row's printed sentence says how): DiskAll: laid · RedoBytes: laid · RedoReads: laid · RedoWhole: laid.
  DERIVED. THE GIVEN ROWS OF THIS SEAT. 4 by the template 'for every input the law returns true; each argument reads behind the call as it read before'; 0 by the template 'total and deterministic' (their statements: YtpcfnkmljchiiaaGreatDoorTotals.lean).
  GIVEN WITH THE SEED: the statements are not yours to turn. If you find one false, say at which input.
  Laid BY PROGRAM, IN A SANDBOX (cutbox-rows.mjs): the forced cells as the released guide's own fill.sh prints them over the translation 469221025c763f6e… (all of the seat's roots in one cut). By AI agents, Wed Nov 11 2026. No macro, syntax, notation, axiom, sorry.
-/
import Derived.Test.YtpcfnkmljchiiaaGreatDoorChecked
import GoSem.Claim
import GoSem.ClaimJoined
import GoSem.ClaimMapViews
import Derived.JoinedTies
import Derived.KernelRfl
namespace Go.Proofs.YtpcfnkmljchiiaaGreatDoor
/- THE CELL 'sum', in the pinned program and in every row, IS THE sha256 OF THE DUMP (.gsa) THAT YtpcfnkmljchiiaaGreatDoorProg.lean LOADS. Nothing in Lean hashes anything: it is a label: what it is worth is what the hold of that sum in a sandbox is worth. -/
noncomputable def Tryz.pinned : Pinned := { name := "ytpcfnkmljchiiaagreatdoor", sum := "469221025c763f6ec1a9ae3d13d832a0c451eaae24e8bb601d33c1256e97be8e", checked := Tryz.checked }
namespace Rows
def none {H : Type} : Left H := { results := [], args := [] }

/- WHAT THE LISTED PACKAGE-LEVEL VARIABLES READ AS WHEN THE CALL BEGINS. Each datum BY PROGRAM (the guide's laid-datum.mjs) off the statement by which the dump's own 'gosem.cut.vars' lays the variable. In a bare row this is a premise. The card (YtpcfnkmljchiiaaGreatDoorCards.lean) ties it to the program's text. -/
def laid_postbag_api_ErrRange {H : Type} : DataW H := .iface "*errors.errorString" (.ptr (.agg [.lit (.string [112, 111, 115, 116, 98, 97, 103, 58, 32, 114, 97, 110, 103, 101])]))
def laid_postbag_api_ErrForm {H : Type} : DataW H := .iface "*errors.errorString" (.ptr (.agg [.lit (.string [112, 111, 115, 116, 98, 97, 103, 58, 32, 102, 111, 114, 109])]))
def laid_postbag_api_ErrLong {H : Type} : DataW H := .iface "*errors.errorString" (.ptr (.agg [.lit (.string [112, 111, 115, 116, 98, 97, 103, 58, 32, 108, 111, 110, 103])]))
def laid_postbag_api_ErrName {H : Type} : DataW H := .iface "*errors.errorString" (.ptr (.agg [.lit (.string [112, 111, 115, 116, 98, 97, 103, 58, 32, 110, 97, 109, 101])]))
def laid_postbag_api_ErrNone {H : Type} : DataW H := .iface "*errors.errorString" (.ptr (.agg [.lit (.string [112, 111, 115, 116, 98, 97, 103, 58, 32, 110, 111, 110, 101])]))
def laid_postbag_api_ErrExists {H : Type} : DataW H := .iface "*errors.errorString" (.ptr (.agg [.lit (.string [112, 111, 115, 116, 98, 97, 103, 58, 32, 101, 120, 105, 115, 116, 115])]))
def laid_postbag_api_ErrQuota {H : Type} : DataW H := .iface "*errors.errorString" (.ptr (.agg [.lit (.string [112, 111, 115, 116, 98, 97, 103, 58, 32, 113, 117, 111, 116, 97])]))
def laid_postbag_api_ErrPower {H : Type} : DataW H := .iface "*errors.errorString" (.ptr (.agg [.lit (.string [112, 111, 115, 116, 98, 97, 103, 58, 32, 112, 111, 119, 101, 114])]))
def laid_postbag_api_ErrState {H : Type} : DataW H := .iface "*errors.errorString" (.ptr (.agg [.lit (.string [112, 111, 115, 116, 98, 97, 103, 58, 32, 115, 116, 97, 116, 101])]))
def laid_postbag_api_ErrSum {H : Type} : DataW H := .iface "*errors.errorString" (.ptr (.agg [.lit (.string [112, 111, 115, 116, 98, 97, 103, 58, 32, 115, 117, 109])]))
def laid_postbag_api_ErrFull {H : Type} : DataW H := .iface "*errors.errorString" (.ptr (.agg [.lit (.string [112, 111, 115, 116, 98, 97, 103, 58, 32, 102, 117, 108, 108])]))
def laid_postbag_api_ErrDepth {H : Type} : DataW H := .iface "*errors.errorString" (.ptr (.agg [.lit (.string [112, 111, 115, 116, 98, 97, 103, 58, 32, 100, 101, 112, 116, 104])]))
def laid_postbag_api_ErrUser {H : Type} : DataW H := .iface "*errors.errorString" (.ptr (.agg [.lit (.string [112, 111, 115, 116, 98, 97, 103, 58, 32, 117, 115, 101, 114])]))

/-- 'postbaglaw05.DiskAll': WHATEVER THE INPUT: true; the input reads as it did. -/
def diskAllSpec : ChangeSpec := { name := "diskAll", fn := fun _ => fun
  | [d] => { results := [.lit (.bool true)], args := [d] }
  | _ => none }
def diskAllRow : OpenClaim := { program := "ytpcfnkmljchiiaagreatdoor", sum := "469221025c763f6ec1a9ae3d13d832a0c451eaae24e8bb601d33c1256e97be8e", func := "postbag/postbaglaw05.DiskAll", spec := "diskAll", inPlace := ["maps.clone", "internal/reflectlite.TypeOf"], unfollowed := true, recurses := true, named := ["postbag/api.ErrRange", "postbag/api.ErrExists", "postbag/api.ErrFull", "postbag/api.ErrPower", "postbag/api.ErrName", "postbag/api.ErrNone", "postbag/api.ErrQuota", "postbag/api.ErrForm", "postbag/api.ErrLong", "postbag/api.ErrState", "postbag/api.ErrSum", "postbag/api.ErrDepth", "postbag/api.ErrUser"], apart := false, laid := [("postbag/api.ErrRange", laid_postbag_api_ErrRange), ("postbag/api.ErrForm", laid_postbag_api_ErrForm), ("postbag/api.ErrLong", laid_postbag_api_ErrLong), ("postbag/api.ErrName", laid_postbag_api_ErrName), ("postbag/api.ErrNone", laid_postbag_api_ErrNone), ("postbag/api.ErrExists", laid_postbag_api_ErrExists), ("postbag/api.ErrQuota", laid_postbag_api_ErrQuota), ("postbag/api.ErrPower", laid_postbag_api_ErrPower), ("postbag/api.ErrState", laid_postbag_api_ErrState), ("postbag/api.ErrSum", laid_postbag_api_ErrSum), ("postbag/api.ErrFull", laid_postbag_api_ErrFull), ("postbag/api.ErrDepth", laid_postbag_api_ErrDepth), ("postbag/api.ErrUser", laid_postbag_api_ErrUser)] }
def DiskAllSaid : Prop := diskAllRow.holds Tryz.pinned (OpenSpec.ofChange diskAllSpec)

/-- ITS FALSE NEIGHBOUR: 'it returns false'. Refute it at one input. -/
def diskAllWrong : ChangeSpec := { name := "diskAll", fn := fun _ => fun
  | [d] => { results := [.lit (.bool false)], args := [d] }
  | _ => none }
def DiskAllWrongFalsely : Prop := diskAllRow.holds Tryz.pinned (OpenSpec.ofChange diskAllWrong)

/-- 'postbaglaw06.RedoBytes': WHATEVER THE INPUT: true; the input reads as it did. -/
def redoBytesSpec : ChangeSpec := { name := "redoBytes", fn := fun _ => fun
  | [d] => { results := [.lit (.bool true)], args := [d] }
  | _ => none }
def redoBytesRow : OpenClaim := { program := "ytpcfnkmljchiiaagreatdoor", sum := "469221025c763f6ec1a9ae3d13d832a0c451eaae24e8bb601d33c1256e97be8e", func := "postbag/postbaglaw06.RedoBytes", spec := "redoBytes", inPlace := ["maps.clone", "internal/reflectlite.TypeOf"], unfollowed := true, recurses := true, named := ["postbag/api.ErrRange", "postbag/api.ErrExists", "postbag/api.ErrFull", "postbag/api.ErrPower", "postbag/api.ErrName", "postbag/api.ErrState", "postbag/api.ErrQuota", "postbag/api.ErrForm", "postbag/api.ErrNone", "postbag/api.ErrLong", "postbag/api.ErrSum", "postbag/api.ErrDepth", "postbag/api.ErrUser"], apart := false, laid := [("postbag/api.ErrRange", laid_postbag_api_ErrRange), ("postbag/api.ErrForm", laid_postbag_api_ErrForm), ("postbag/api.ErrLong", laid_postbag_api_ErrLong), ("postbag/api.ErrName", laid_postbag_api_ErrName), ("postbag/api.ErrNone", laid_postbag_api_ErrNone), ("postbag/api.ErrExists", laid_postbag_api_ErrExists), ("postbag/api.ErrQuota", laid_postbag_api_ErrQuota), ("postbag/api.ErrPower", laid_postbag_api_ErrPower), ("postbag/api.ErrState", laid_postbag_api_ErrState), ("postbag/api.ErrSum", laid_postbag_api_ErrSum), ("postbag/api.ErrFull", laid_postbag_api_ErrFull), ("postbag/api.ErrDepth", laid_postbag_api_ErrDepth), ("postbag/api.ErrUser", laid_postbag_api_ErrUser)] }
def RedoBytesSaid : Prop := redoBytesRow.holds Tryz.pinned (OpenSpec.ofChange redoBytesSpec)

/-- ITS FALSE NEIGHBOUR: 'it returns false'. Refute it at one input. -/
def redoBytesWrong : ChangeSpec := { name := "redoBytes", fn := fun _ => fun
  | [d] => { results := [.lit (.bool false)], args := [d] }
  | _ => none }
def RedoBytesWrongFalsely : Prop := redoBytesRow.holds Tryz.pinned (OpenSpec.ofChange redoBytesWrong)

/-- 'postbaglaw06.RedoReads': WHATEVER THE INPUT: true; the input reads as it did. -/
def redoReadsSpec : ChangeSpec := { name := "redoReads", fn := fun _ => fun
  | [d] => { results := [.lit (.bool true)], args := [d] }
  | _ => none }
def redoReadsRow : OpenClaim := { program := "ytpcfnkmljchiiaagreatdoor", sum := "469221025c763f6ec1a9ae3d13d832a0c451eaae24e8bb601d33c1256e97be8e", func := "postbag/postbaglaw06.RedoReads", spec := "redoReads", inPlace := ["maps.clone", "internal/reflectlite.TypeOf"], unfollowed := true, recurses := true, named := ["postbag/api.ErrRange", "postbag/api.ErrExists", "postbag/api.ErrFull", "postbag/api.ErrPower", "postbag/api.ErrName", "postbag/api.ErrState", "postbag/api.ErrQuota", "postbag/api.ErrForm", "postbag/api.ErrNone", "postbag/api.ErrLong", "postbag/api.ErrSum", "postbag/api.ErrDepth", "postbag/api.ErrUser"], apart := false, laid := [("postbag/api.ErrRange", laid_postbag_api_ErrRange), ("postbag/api.ErrForm", laid_postbag_api_ErrForm), ("postbag/api.ErrLong", laid_postbag_api_ErrLong), ("postbag/api.ErrName", laid_postbag_api_ErrName), ("postbag/api.ErrNone", laid_postbag_api_ErrNone), ("postbag/api.ErrExists", laid_postbag_api_ErrExists), ("postbag/api.ErrQuota", laid_postbag_api_ErrQuota), ("postbag/api.ErrPower", laid_postbag_api_ErrPower), ("postbag/api.ErrState", laid_postbag_api_ErrState), ("postbag/api.ErrSum", laid_postbag_api_ErrSum), ("postbag/api.ErrFull", laid_postbag_api_ErrFull), ("postbag/api.ErrDepth", laid_postbag_api_ErrDepth), ("postbag/api.ErrUser", laid_postbag_api_ErrUser)] }
def RedoReadsSaid : Prop := redoReadsRow.holds Tryz.pinned (OpenSpec.ofChange redoReadsSpec)

/-- ITS FALSE NEIGHBOUR: 'it returns false'. Refute it at one input. -/
def redoReadsWrong : ChangeSpec := { name := "redoReads", fn := fun _ => fun
  | [d] => { results := [.lit (.bool false)], args := [d] }
  | _ => none }
def RedoReadsWrongFalsely : Prop := redoReadsRow.holds Tryz.pinned (OpenSpec.ofChange redoReadsWrong)

/-- 'postbaglaw06.RedoWhole': WHATEVER THE INPUT: true; the input reads as it did. -/
def redoWholeSpec : ChangeSpec := { name := "redoWhole", fn := fun _ => fun
  | [d1, d2, d3] => { results := [.lit (.bool true)], args := [d1, d2, d3] }
  | _ => none }
def redoWholeRow : OpenClaim := { program := "ytpcfnkmljchiiaagreatdoor", sum := "469221025c763f6ec1a9ae3d13d832a0c451eaae24e8bb601d33c1256e97be8e", func := "postbag/postbaglaw06.RedoWhole", spec := "redoWhole", inPlace := ["maps.clone", "internal/reflectlite.TypeOf"], unfollowed := true, recurses := true, named := ["postbag/api.ErrRange", "postbag/api.ErrExists", "postbag/api.ErrFull", "postbag/api.ErrPower", "postbag/api.ErrName", "postbag/api.ErrState", "postbag/api.ErrQuota", "postbag/api.ErrForm", "postbag/api.ErrNone", "postbag/api.ErrLong", "postbag/api.ErrSum", "postbag/api.ErrDepth", "postbag/api.ErrUser"], apart := false, laid := [("postbag/api.ErrRange", laid_postbag_api_ErrRange), ("postbag/api.ErrForm", laid_postbag_api_ErrForm), ("postbag/api.ErrLong", laid_postbag_api_ErrLong), ("postbag/api.ErrName", laid_postbag_api_ErrName), ("postbag/api.ErrNone", laid_postbag_api_ErrNone), ("postbag/api.ErrExists", laid_postbag_api_ErrExists), ("postbag/api.ErrQuota", laid_postbag_api_ErrQuota), ("postbag/api.ErrPower", laid_postbag_api_ErrPower), ("postbag/api.ErrState", laid_postbag_api_ErrState), ("postbag/api.ErrSum", laid_postbag_api_ErrSum), ("postbag/api.ErrFull", laid_postbag_api_ErrFull), ("postbag/api.ErrDepth", laid_postbag_api_ErrDepth), ("postbag/api.ErrUser", laid_postbag_api_ErrUser)] }
def RedoWholeSaid : Prop := redoWholeRow.holds Tryz.pinned (OpenSpec.ofChange redoWholeSpec)

/-- ITS FALSE NEIGHBOUR: 'it returns false'. Refute it at one input. -/
def redoWholeWrong : ChangeSpec := { name := "redoWhole", fn := fun _ => fun
  | [d1, d2, d3] => { results := [.lit (.bool false)], args := [d1, d2, d3] }
  | _ => none }
def RedoWholeWrongFalsely : Prop := redoWholeRow.holds Tryz.pinned (OpenSpec.ofChange redoWholeWrong)

/- THE SECOND FORM. 'bulk': how many values and letters a reading holds, each counted each time it is reached (what is shared counts as often as it is met; a slice's spare places count too). A statement '..UptoSaid' is the law's where the arguments, and the package variables that the reading takes, are together of bulk at most 1048576: NARROWER than '..Said'. Prove '..Said' where nothing that the law and all that it calls make is longer than what came in: it says more and counts as full. Else prove '..UptoSaid'. A law counts once. -/
mutual
def uptoBulk {H : Type} : DataW H → Nat
  | .lit (.string bytes) => bytes.length + 1
  | .lit _ => 1
  | .nil => 1
  | .ptr d => uptoBulk d + 1
  | .slice elems spare => uptoBulkAll elems + uptoBulkAll spare + 1
  | .agg parts => uptoBulkAll parts + 1
  | .iface _ d => uptoBulk d + 1
  | .map entries => uptoBulkEntries entries + 1
  | .held _ => 1
def uptoBulkAll {H : Type} : List (DataW H) → Nat
  | [] => 0
  | d :: r => uptoBulk d + uptoBulkAll r
def uptoBulkEntries {H : Type} : List (Lit × DataW H) → Nat
  | [] => 0
  | x :: r => uptoBulkEntry x + uptoBulkEntries r
def uptoBulkEntry {H : Type} : Lit × DataW H → Nat
  | (.string bytes, d) => bytes.length + uptoBulk d + 1
  | (_, d) => uptoBulk d + 1
 end
def uptoSmall : (H : Type) → List (DataW H) → Bool := fun _ ds => decide (uptoBulkAll ds ≤ 1048576)
def OpenSpec.upto (s : _root_.Go.ChangeSpec) : _root_.Go.OpenSpec := { _root_.Go.OpenSpec.ofChange s with cond := some uptoSmall }

/-- 'postbaglaw05.DiskAll', WHERE WHAT IT READS IS OF BULK AT MOST 1048576: true; the input reads as it did. -/
def diskAllUptoRow : OpenClaim := { program := "ytpcfnkmljchiiaagreatdoor", sum := "469221025c763f6ec1a9ae3d13d832a0c451eaae24e8bb601d33c1256e97be8e", func := "postbag/postbaglaw05.DiskAll", spec := "diskAll", inPlace := ["maps.clone", "internal/reflectlite.TypeOf"], unfollowed := true, recurses := true, named := ["postbag/api.ErrRange", "postbag/api.ErrExists", "postbag/api.ErrFull", "postbag/api.ErrPower", "postbag/api.ErrName", "postbag/api.ErrNone", "postbag/api.ErrQuota", "postbag/api.ErrForm", "postbag/api.ErrLong", "postbag/api.ErrState", "postbag/api.ErrSum", "postbag/api.ErrDepth", "postbag/api.ErrUser"], apart := false, laid := [("postbag/api.ErrRange", laid_postbag_api_ErrRange), ("postbag/api.ErrForm", laid_postbag_api_ErrForm), ("postbag/api.ErrLong", laid_postbag_api_ErrLong), ("postbag/api.ErrName", laid_postbag_api_ErrName), ("postbag/api.ErrNone", laid_postbag_api_ErrNone), ("postbag/api.ErrExists", laid_postbag_api_ErrExists), ("postbag/api.ErrQuota", laid_postbag_api_ErrQuota), ("postbag/api.ErrPower", laid_postbag_api_ErrPower), ("postbag/api.ErrState", laid_postbag_api_ErrState), ("postbag/api.ErrSum", laid_postbag_api_ErrSum), ("postbag/api.ErrFull", laid_postbag_api_ErrFull), ("postbag/api.ErrDepth", laid_postbag_api_ErrDepth), ("postbag/api.ErrUser", laid_postbag_api_ErrUser)], narrowed := true }
def DiskAllUptoSaid : Prop := diskAllUptoRow.holds Tryz.pinned (OpenSpec.upto diskAllSpec)

/-- 'postbaglaw06.RedoBytes', WHERE WHAT IT READS IS OF BULK AT MOST 1048576: true; the input reads as it did. -/
def redoBytesUptoRow : OpenClaim := { program := "ytpcfnkmljchiiaagreatdoor", sum := "469221025c763f6ec1a9ae3d13d832a0c451eaae24e8bb601d33c1256e97be8e", func := "postbag/postbaglaw06.RedoBytes", spec := "redoBytes", inPlace := ["maps.clone", "internal/reflectlite.TypeOf"], unfollowed := true, recurses := true, named := ["postbag/api.ErrRange", "postbag/api.ErrExists", "postbag/api.ErrFull", "postbag/api.ErrPower", "postbag/api.ErrName", "postbag/api.ErrState", "postbag/api.ErrQuota", "postbag/api.ErrForm", "postbag/api.ErrNone", "postbag/api.ErrLong", "postbag/api.ErrSum", "postbag/api.ErrDepth", "postbag/api.ErrUser"], apart := false, laid := [("postbag/api.ErrRange", laid_postbag_api_ErrRange), ("postbag/api.ErrForm", laid_postbag_api_ErrForm), ("postbag/api.ErrLong", laid_postbag_api_ErrLong), ("postbag/api.ErrName", laid_postbag_api_ErrName), ("postbag/api.ErrNone", laid_postbag_api_ErrNone), ("postbag/api.ErrExists", laid_postbag_api_ErrExists), ("postbag/api.ErrQuota", laid_postbag_api_ErrQuota), ("postbag/api.ErrPower", laid_postbag_api_ErrPower), ("postbag/api.ErrState", laid_postbag_api_ErrState), ("postbag/api.ErrSum", laid_postbag_api_ErrSum), ("postbag/api.ErrFull", laid_postbag_api_ErrFull), ("postbag/api.ErrDepth", laid_postbag_api_ErrDepth), ("postbag/api.ErrUser", laid_postbag_api_ErrUser)], narrowed := true }
def RedoBytesUptoSaid : Prop := redoBytesUptoRow.holds Tryz.pinned (OpenSpec.upto redoBytesSpec)

/-- 'postbaglaw06.RedoReads', WHERE WHAT IT READS IS OF BULK AT MOST 1048576: true; the input reads as it did. -/
def redoReadsUptoRow : OpenClaim := { program := "ytpcfnkmljchiiaagreatdoor", sum := "469221025c763f6ec1a9ae3d13d832a0c451eaae24e8bb601d33c1256e97be8e", func := "postbag/postbaglaw06.RedoReads", spec := "redoReads", inPlace := ["maps.clone", "internal/reflectlite.TypeOf"], unfollowed := true, recurses := true, named := ["postbag/api.ErrRange", "postbag/api.ErrExists", "postbag/api.ErrFull", "postbag/api.ErrPower", "postbag/api.ErrName", "postbag/api.ErrState", "postbag/api.ErrQuota", "postbag/api.ErrForm", "postbag/api.ErrNone", "postbag/api.ErrLong", "postbag/api.ErrSum", "postbag/api.ErrDepth", "postbag/api.ErrUser"], apart := false, laid := [("postbag/api.ErrRange", laid_postbag_api_ErrRange), ("postbag/api.ErrForm", laid_postbag_api_ErrForm), ("postbag/api.ErrLong", laid_postbag_api_ErrLong), ("postbag/api.ErrName", laid_postbag_api_ErrName), ("postbag/api.ErrNone", laid_postbag_api_ErrNone), ("postbag/api.ErrExists", laid_postbag_api_ErrExists), ("postbag/api.ErrQuota", laid_postbag_api_ErrQuota), ("postbag/api.ErrPower", laid_postbag_api_ErrPower), ("postbag/api.ErrState", laid_postbag_api_ErrState), ("postbag/api.ErrSum", laid_postbag_api_ErrSum), ("postbag/api.ErrFull", laid_postbag_api_ErrFull), ("postbag/api.ErrDepth", laid_postbag_api_ErrDepth), ("postbag/api.ErrUser", laid_postbag_api_ErrUser)], narrowed := true }
def RedoReadsUptoSaid : Prop := redoReadsUptoRow.holds Tryz.pinned (OpenSpec.upto redoReadsSpec)

/-- 'postbaglaw06.RedoWhole', WHERE WHAT IT READS IS OF BULK AT MOST 1048576: true; the input reads as it did. -/
def redoWholeUptoRow : OpenClaim := { program := "ytpcfnkmljchiiaagreatdoor", sum := "469221025c763f6ec1a9ae3d13d832a0c451eaae24e8bb601d33c1256e97be8e", func := "postbag/postbaglaw06.RedoWhole", spec := "redoWhole", inPlace := ["maps.clone", "internal/reflectlite.TypeOf"], unfollowed := true, recurses := true, named := ["postbag/api.ErrRange", "postbag/api.ErrExists", "postbag/api.ErrFull", "postbag/api.ErrPower", "postbag/api.ErrName", "postbag/api.ErrState", "postbag/api.ErrQuota", "postbag/api.ErrForm", "postbag/api.ErrNone", "postbag/api.ErrLong", "postbag/api.ErrSum", "postbag/api.ErrDepth", "postbag/api.ErrUser"], apart := false, laid := [("postbag/api.ErrRange", laid_postbag_api_ErrRange), ("postbag/api.ErrForm", laid_postbag_api_ErrForm), ("postbag/api.ErrLong", laid_postbag_api_ErrLong), ("postbag/api.ErrName", laid_postbag_api_ErrName), ("postbag/api.ErrNone", laid_postbag_api_ErrNone), ("postbag/api.ErrExists", laid_postbag_api_ErrExists), ("postbag/api.ErrQuota", laid_postbag_api_ErrQuota), ("postbag/api.ErrPower", laid_postbag_api_ErrPower), ("postbag/api.ErrState", laid_postbag_api_ErrState), ("postbag/api.ErrSum", laid_postbag_api_ErrSum), ("postbag/api.ErrFull", laid_postbag_api_ErrFull), ("postbag/api.ErrDepth", laid_postbag_api_ErrDepth), ("postbag/api.ErrUser", laid_postbag_api_ErrUser)], narrowed := true }
def RedoWholeUptoSaid : Prop := redoWholeUptoRow.holds Tryz.pinned (OpenSpec.upto redoWholeSpec)

end Rows
end Go.Proofs.YtpcfnkmljchiiaaGreatDoor
