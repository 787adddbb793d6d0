/-
  NARROWER THAN 'FOR EVERY INPUT', by the rows' own cells (each row's printed sentence says how): DiskNames: laid · DiskRooms: laid · DiskSure: laid.
  DERIVED. THE GIVEN ROWS OF THIS SEAT. 3 by the template 'for every input the law returns true; each argument reads behind the call as it read before'; 0 by the template 'total and deterministic' (their statements: YtpcfnkmljchiiaaDoorTotals.lean).
  GIVEN WITH THE SEED: the statements are not yours to turn. If you find one false, say at which input.
  Laid BY PROGRAM, IN A SANDBOX (cutbox-rows.mjs): the forced cells as the released guide's own fill.sh prints them over the translation 2fba05e3b8fc2721… (all of the seat's roots in one cut). By AI agents, Wed Nov 11 2026. No macro, syntax, notation, axiom, sorry.
-/
import Derived.Test.YtpcfnkmljchiiaaDoorChecked
import GoSem.Claim
import GoSem.ClaimJoined
import GoSem.ClaimMapViews
import Derived.JoinedTies
import Derived.KernelRfl
namespace Go.Proofs.YtpcfnkmljchiiaaDoor
/- THE CELL 'sum', in the pinned program and in every row, IS THE sha256 OF THE DUMP (.gsa) THAT YtpcfnkmljchiiaaDoorProg.lean LOADS. Nothing in Lean hashes anything: it is a label: what it is worth is what the hold of that sum in a sandbox is worth. -/
noncomputable def Tryd.pinned : Pinned := { name := "ytpcfnkmljchiiaadoor", sum := "2fba05e3b8fc2721cb33e18632f024da97ad446aaf0d903512871b0559a7cce3", checked := Tryd.checked }
namespace Rows
def none {H : Type} : Left H := { results := [], args := [] }

/- WHAT THE LISTED PACKAGE-LEVEL VARIABLES READ AS WHEN THE CALL BEGINS. Each datum BY PROGRAM (the guide's laid-datum.mjs) off the statement by which the dump's own 'gosem.cut.vars' lays the variable. In a bare row this is a premise. The card (YtpcfnkmljchiiaaDoorCards.lean) ties it to the program's text. -/
def laid_postbag_api_ErrRange {H : Type} : DataW H := .iface "*errors.errorString" (.ptr (.agg [.lit (.string [112, 111, 115, 116, 98, 97, 103, 58, 32, 114, 97, 110, 103, 101])]))
def laid_postbag_api_ErrForm {H : Type} : DataW H := .iface "*errors.errorString" (.ptr (.agg [.lit (.string [112, 111, 115, 116, 98, 97, 103, 58, 32, 102, 111, 114, 109])]))
def laid_postbag_api_ErrLong {H : Type} : DataW H := .iface "*errors.errorString" (.ptr (.agg [.lit (.string [112, 111, 115, 116, 98, 97, 103, 58, 32, 108, 111, 110, 103])]))
def laid_postbag_api_ErrName {H : Type} : DataW H := .iface "*errors.errorString" (.ptr (.agg [.lit (.string [112, 111, 115, 116, 98, 97, 103, 58, 32, 110, 97, 109, 101])]))
def laid_postbag_api_ErrNone {H : Type} : DataW H := .iface "*errors.errorString" (.ptr (.agg [.lit (.string [112, 111, 115, 116, 98, 97, 103, 58, 32, 110, 111, 110, 101])]))
def laid_postbag_api_ErrExists {H : Type} : DataW H := .iface "*errors.errorString" (.ptr (.agg [.lit (.string [112, 111, 115, 116, 98, 97, 103, 58, 32, 101, 120, 105, 115, 116, 115])]))
def laid_postbag_api_ErrQuota {H : Type} : DataW H := .iface "*errors.errorString" (.ptr (.agg [.lit (.string [112, 111, 115, 116, 98, 97, 103, 58, 32, 113, 117, 111, 116, 97])]))
def laid_postbag_api_ErrPower {H : Type} : DataW H := .iface "*errors.errorString" (.ptr (.agg [.lit (.string [112, 111, 115, 116, 98, 97, 103, 58, 32, 112, 111, 119, 101, 114])]))
def laid_postbag_api_ErrState {H : Type} : DataW H := .iface "*errors.errorString" (.ptr (.agg [.lit (.string [112, 111, 115, 116, 98, 97, 103, 58, 32, 115, 116, 97, 116, 101])]))
def laid_postbag_api_ErrSum {H : Type} : DataW H := .iface "*errors.errorString" (.ptr (.agg [.lit (.string [112, 111, 115, 116, 98, 97, 103, 58, 32, 115, 117, 109])]))
def laid_postbag_api_ErrFull {H : Type} : DataW H := .iface "*errors.errorString" (.ptr (.agg [.lit (.string [112, 111, 115, 116, 98, 97, 103, 58, 32, 102, 117, 108, 108])]))
def laid_postbag_api_ErrDepth {H : Type} : DataW H := .iface "*errors.errorString" (.ptr (.agg [.lit (.string [112, 111, 115, 116, 98, 97, 103, 58, 32, 100, 101, 112, 116, 104])]))
def laid_postbag_api_ErrUser {H : Type} : DataW H := .iface "*errors.errorString" (.ptr (.agg [.lit (.string [112, 111, 115, 116, 98, 97, 103, 58, 32, 117, 115, 101, 114])]))

/-- 'postbaglaw05.DiskNames': WHATEVER THE INPUT: true; the input reads as it did. -/
def diskNamesSpec : ChangeSpec := { name := "diskNames", fn := fun _ => fun
  | [d] => { results := [.lit (.bool true)], args := [d] }
  | _ => none }
def diskNamesRow : OpenClaim := { program := "ytpcfnkmljchiiaadoor", sum := "2fba05e3b8fc2721cb33e18632f024da97ad446aaf0d903512871b0559a7cce3", func := "postbag/postbaglaw05.DiskNames", spec := "diskNames", inPlace := ["maps.clone", "internal/reflectlite.TypeOf"], unfollowed := true, recurses := true, named := ["postbag/api.ErrRange", "postbag/api.ErrExists", "postbag/api.ErrFull", "postbag/api.ErrPower", "postbag/api.ErrName", "postbag/api.ErrNone", "postbag/api.ErrQuota", "postbag/api.ErrForm", "postbag/api.ErrLong", "postbag/api.ErrState", "postbag/api.ErrSum", "postbag/api.ErrDepth", "postbag/api.ErrUser"], apart := false, laid := [("postbag/api.ErrRange", laid_postbag_api_ErrRange), ("postbag/api.ErrForm", laid_postbag_api_ErrForm), ("postbag/api.ErrLong", laid_postbag_api_ErrLong), ("postbag/api.ErrName", laid_postbag_api_ErrName), ("postbag/api.ErrNone", laid_postbag_api_ErrNone), ("postbag/api.ErrExists", laid_postbag_api_ErrExists), ("postbag/api.ErrQuota", laid_postbag_api_ErrQuota), ("postbag/api.ErrPower", laid_postbag_api_ErrPower), ("postbag/api.ErrState", laid_postbag_api_ErrState), ("postbag/api.ErrSum", laid_postbag_api_ErrSum), ("postbag/api.ErrFull", laid_postbag_api_ErrFull), ("postbag/api.ErrDepth", laid_postbag_api_ErrDepth), ("postbag/api.ErrUser", laid_postbag_api_ErrUser)] }
def DiskNamesSaid : Prop := diskNamesRow.holds Tryd.pinned (OpenSpec.ofChange diskNamesSpec)

/-- ITS FALSE NEIGHBOUR: 'it returns false'. Refute it at one input. -/
def diskNamesWrong : ChangeSpec := { name := "diskNames", fn := fun _ => fun
  | [d] => { results := [.lit (.bool false)], args := [d] }
  | _ => none }
def DiskNamesWrongFalsely : Prop := diskNamesRow.holds Tryd.pinned (OpenSpec.ofChange diskNamesWrong)

/-- 'postbaglaw05.DiskRooms': WHATEVER THE INPUT: true; the input reads as it did. -/
def diskRoomsSpec : ChangeSpec := { name := "diskRooms", fn := fun _ => fun
  | [d1, d2] => { results := [.lit (.bool true)], args := [d1, d2] }
  | _ => none }
def diskRoomsRow : OpenClaim := { program := "ytpcfnkmljchiiaadoor", sum := "2fba05e3b8fc2721cb33e18632f024da97ad446aaf0d903512871b0559a7cce3", func := "postbag/postbaglaw05.DiskRooms", spec := "diskRooms", inPlace := ["maps.clone", "internal/reflectlite.TypeOf"], unfollowed := true, recurses := true, named := ["postbag/api.ErrRange", "postbag/api.ErrExists", "postbag/api.ErrFull", "postbag/api.ErrPower", "postbag/api.ErrName", "postbag/api.ErrNone", "postbag/api.ErrQuota", "postbag/api.ErrForm", "postbag/api.ErrLong", "postbag/api.ErrState", "postbag/api.ErrSum", "postbag/api.ErrDepth", "postbag/api.ErrUser"], apart := false, laid := [("postbag/api.ErrRange", laid_postbag_api_ErrRange), ("postbag/api.ErrForm", laid_postbag_api_ErrForm), ("postbag/api.ErrLong", laid_postbag_api_ErrLong), ("postbag/api.ErrName", laid_postbag_api_ErrName), ("postbag/api.ErrNone", laid_postbag_api_ErrNone), ("postbag/api.ErrExists", laid_postbag_api_ErrExists), ("postbag/api.ErrQuota", laid_postbag_api_ErrQuota), ("postbag/api.ErrPower", laid_postbag_api_ErrPower), ("postbag/api.ErrState", laid_postbag_api_ErrState), ("postbag/api.ErrSum", laid_postbag_api_ErrSum), ("postbag/api.ErrFull", laid_postbag_api_ErrFull), ("postbag/api.ErrDepth", laid_postbag_api_ErrDepth), ("postbag/api.ErrUser", laid_postbag_api_ErrUser)] }
def DiskRoomsSaid : Prop := diskRoomsRow.holds Tryd.pinned (OpenSpec.ofChange diskRoomsSpec)

/-- ITS FALSE NEIGHBOUR: 'it returns false'. Refute it at one input. -/
def diskRoomsWrong : ChangeSpec := { name := "diskRooms", fn := fun _ => fun
  | [d1, d2] => { results := [.lit (.bool false)], args := [d1, d2] }
  | _ => none }
def DiskRoomsWrongFalsely : Prop := diskRoomsRow.holds Tryd.pinned (OpenSpec.ofChange diskRoomsWrong)

/-- 'postbaglaw05.DiskSure': WHATEVER THE INPUT: true; the input reads as it did. -/
def diskSureSpec : ChangeSpec := { name := "diskSure", fn := fun _ => fun
  | [d1, d2, d3] => { results := [.lit (.bool true)], args := [d1, d2, d3] }
  | _ => none }
def diskSureRow : OpenClaim := { program := "ytpcfnkmljchiiaadoor", sum := "2fba05e3b8fc2721cb33e18632f024da97ad446aaf0d903512871b0559a7cce3", func := "postbag/postbaglaw05.DiskSure", spec := "diskSure", inPlace := ["maps.clone", "internal/reflectlite.TypeOf"], unfollowed := true, recurses := true, named := ["postbag/api.ErrRange", "postbag/api.ErrExists", "postbag/api.ErrFull", "postbag/api.ErrPower", "postbag/api.ErrName", "postbag/api.ErrNone", "postbag/api.ErrQuota", "postbag/api.ErrForm", "postbag/api.ErrLong", "postbag/api.ErrState", "postbag/api.ErrSum", "postbag/api.ErrDepth", "postbag/api.ErrUser"], apart := false, laid := [("postbag/api.ErrRange", laid_postbag_api_ErrRange), ("postbag/api.ErrForm", laid_postbag_api_ErrForm), ("postbag/api.ErrLong", laid_postbag_api_ErrLong), ("postbag/api.ErrName", laid_postbag_api_ErrName), ("postbag/api.ErrNone", laid_postbag_api_ErrNone), ("postbag/api.ErrExists", laid_postbag_api_ErrExists), ("postbag/api.ErrQuota", laid_postbag_api_ErrQuota), ("postbag/api.ErrPower", laid_postbag_api_ErrPower), ("postbag/api.ErrState", laid_postbag_api_ErrState), ("postbag/api.ErrSum", laid_postbag_api_ErrSum), ("postbag/api.ErrFull", laid_postbag_api_ErrFull), ("postbag/api.ErrDepth", laid_postbag_api_ErrDepth), ("postbag/api.ErrUser", laid_postbag_api_ErrUser)] }
def DiskSureSaid : Prop := diskSureRow.holds Tryd.pinned (OpenSpec.ofChange diskSureSpec)

/-- ITS FALSE NEIGHBOUR: 'it returns false'. Refute it at one input. -/
def diskSureWrong : ChangeSpec := { name := "diskSure", fn := fun _ => fun
  | [d1, d2, d3] => { results := [.lit (.bool false)], args := [d1, d2, d3] }
  | _ => none }
def DiskSureWrongFalsely : Prop := diskSureRow.holds Tryd.pinned (OpenSpec.ofChange diskSureWrong)

/- THE SECOND FORM. 'bulk': how many values and letters a reading holds, each counted each time it is reached (what is shared counts as often as it is met; a slice's spare places count too). A statement '..UptoSaid' is the law's where the arguments, and the package variables that the reading takes, are together of bulk at most 1048576: NARROWER than '..Said'. Prove '..Said' where nothing that the law and all that it calls make is longer than what came in: it says more and counts as full. Else prove '..UptoSaid'. A law counts once. -/
mutual
def uptoBulk {H : Type} : DataW H → Nat
  | .lit (.string bytes) => bytes.length + 1
  | .lit _ => 1
  | .nil => 1
  | .ptr d => uptoBulk d + 1
  | .slice elems spare => uptoBulkAll elems + uptoBulkAll spare + 1
  | .agg parts => uptoBulkAll parts + 1
  | .iface _ d => uptoBulk d + 1
  | .map entries => uptoBulkEntries entries + 1
  | .held _ => 1
def uptoBulkAll {H : Type} : List (DataW H) → Nat
  | [] => 0
  | d :: r => uptoBulk d + uptoBulkAll r
def uptoBulkEntries {H : Type} : List (Lit × DataW H) → Nat
  | [] => 0
  | x :: r => uptoBulkEntry x + uptoBulkEntries r
def uptoBulkEntry {H : Type} : Lit × DataW H → Nat
  | (.string bytes, d) => bytes.length + uptoBulk d + 1
  | (_, d) => uptoBulk d + 1
 end
def uptoSmall : (H : Type) → List (DataW H) → Bool := fun _ ds => decide (uptoBulkAll ds ≤ 1048576)
def OpenSpec.upto (s : _root_.Go.ChangeSpec) : _root_.Go.OpenSpec := { _root_.Go.OpenSpec.ofChange s with cond := some uptoSmall }

/-- 'postbaglaw05.DiskNames', WHERE WHAT IT READS IS OF BULK AT MOST 1048576: true; the input reads as it did. -/
def diskNamesUptoRow : OpenClaim := { program := "ytpcfnkmljchiiaadoor", sum := "2fba05e3b8fc2721cb33e18632f024da97ad446aaf0d903512871b0559a7cce3", func := "postbag/postbaglaw05.DiskNames", spec := "diskNames", inPlace := ["maps.clone", "internal/reflectlite.TypeOf"], unfollowed := true, recurses := true, named := ["postbag/api.ErrRange", "postbag/api.ErrExists", "postbag/api.ErrFull", "postbag/api.ErrPower", "postbag/api.ErrName", "postbag/api.ErrNone", "postbag/api.ErrQuota", "postbag/api.ErrForm", "postbag/api.ErrLong", "postbag/api.ErrState", "postbag/api.ErrSum", "postbag/api.ErrDepth", "postbag/api.ErrUser"], apart := false, laid := [("postbag/api.ErrRange", laid_postbag_api_ErrRange), ("postbag/api.ErrForm", laid_postbag_api_ErrForm), ("postbag/api.ErrLong", laid_postbag_api_ErrLong), ("postbag/api.ErrName", laid_postbag_api_ErrName), ("postbag/api.ErrNone", laid_postbag_api_ErrNone), ("postbag/api.ErrExists", laid_postbag_api_ErrExists), ("postbag/api.ErrQuota", laid_postbag_api_ErrQuota), ("postbag/api.ErrPower", laid_postbag_api_ErrPower), ("postbag/api.ErrState", laid_postbag_api_ErrState), ("postbag/api.ErrSum", laid_postbag_api_ErrSum), ("postbag/api.ErrFull", laid_postbag_api_ErrFull), ("postbag/api.ErrDepth", laid_postbag_api_ErrDepth), ("postbag/api.ErrUser", laid_postbag_api_ErrUser)], narrowed := true }
def DiskNamesUptoSaid : Prop := diskNamesUptoRow.holds Tryd.pinned (OpenSpec.upto diskNamesSpec)

/-- 'postbaglaw05.DiskRooms', WHERE WHAT IT READS IS OF BULK AT MOST 1048576: true; the input reads as it did. -/
def diskRoomsUptoRow : OpenClaim := { program := "ytpcfnkmljchiiaadoor", sum := "2fba05e3b8fc2721cb33e18632f024da97ad446aaf0d903512871b0559a7cce3", func := "postbag/postbaglaw05.DiskRooms", spec := "diskRooms", inPlace := ["maps.clone", "internal/reflectlite.TypeOf"], unfollowed := true, recurses := true, named := ["postbag/api.ErrRange", "postbag/api.ErrExists", "postbag/api.ErrFull", "postbag/api.ErrPower", "postbag/api.ErrName", "postbag/api.ErrNone", "postbag/api.ErrQuota", "postbag/api.ErrForm", "postbag/api.ErrLong", "postbag/api.ErrState", "postbag/api.ErrSum", "postbag/api.ErrDepth", "postbag/api.ErrUser"], apart := false, laid := [("postbag/api.ErrRange", laid_postbag_api_ErrRange), ("postbag/api.ErrForm", laid_postbag_api_ErrForm), ("postbag/api.ErrLong", laid_postbag_api_ErrLong), ("postbag/api.ErrName", laid_postbag_api_ErrName), ("postbag/api.ErrNone", laid_postbag_api_ErrNone), ("postbag/api.ErrExists", laid_postbag_api_ErrExists), ("postbag/api.ErrQuota", laid_postbag_api_ErrQuota), ("postbag/api.ErrPower", laid_postbag_api_ErrPower), ("postbag/api.ErrState", laid_postbag_api_ErrState), ("postbag/api.ErrSum", laid_postbag_api_ErrSum), ("postbag/api.ErrFull", laid_postbag_api_ErrFull), ("postbag/api.ErrDepth", laid_postbag_api_ErrDepth), ("postbag/api.ErrUser", laid_postbag_api_ErrUser)], narrowed := true }
def DiskRoomsUptoSaid : Prop := diskRoomsUptoRow.holds Tryd.pinned (OpenSpec.upto diskRoomsSpec)

/-- 'postbaglaw05.DiskSure', WHERE WHAT IT READS IS OF BULK AT MOST 1048576: true; the input reads as it did. -/
def diskSureUptoRow : OpenClaim := { program := "ytpcfnkmljchiiaadoor", sum := "2fba05e3b8fc2721cb33e18632f024da97ad446aaf0d903512871b0559a7cce3", func := "postbag/postbaglaw05.DiskSure", spec := "diskSure", inPlace := ["maps.clone", "internal/reflectlite.TypeOf"], unfollowed := true, recurses := true, named := ["postbag/api.ErrRange", "postbag/api.ErrExists", "postbag/api.ErrFull", "postbag/api.ErrPower", "postbag/api.ErrName", "postbag/api.ErrNone", "postbag/api.ErrQuota", "postbag/api.ErrForm", "postbag/api.ErrLong", "postbag/api.ErrState", "postbag/api.ErrSum", "postbag/api.ErrDepth", "postbag/api.ErrUser"], apart := false, laid := [("postbag/api.ErrRange", laid_postbag_api_ErrRange), ("postbag/api.ErrForm", laid_postbag_api_ErrForm), ("postbag/api.ErrLong", laid_postbag_api_ErrLong), ("postbag/api.ErrName", laid_postbag_api_ErrName), ("postbag/api.ErrNone", laid_postbag_api_ErrNone), ("postbag/api.ErrExists", laid_postbag_api_ErrExists), ("postbag/api.ErrQuota", laid_postbag_api_ErrQuota), ("postbag/api.ErrPower", laid_postbag_api_ErrPower), ("postbag/api.ErrState", laid_postbag_api_ErrState), ("postbag/api.ErrSum", laid_postbag_api_ErrSum), ("postbag/api.ErrFull", laid_postbag_api_ErrFull), ("postbag/api.ErrDepth", laid_postbag_api_ErrDepth), ("postbag/api.ErrUser", laid_postbag_api_ErrUser)], narrowed := true }
def DiskSureUptoSaid : Prop := diskSureUptoRow.holds Tryd.pinned (OpenSpec.upto diskSureSpec)

end Rows
end Go.Proofs.YtpcfnkmljchiiaaDoor
