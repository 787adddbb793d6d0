/-
  No cell of these rows narrows 'for every input' (looked for: loops, veiled, ifaces, maps, wideKeys, modest, calm, conditions, laid).
  DERIVED. THE GIVEN ROWS OF THIS SEAT. 4 by the template 'for every input the law returns true; each argument reads behind the call as it read before'; 0 by the template 'total and deterministic' (their statements: YthlofokgbogndabTotals.lean).
  GIVEN WITH THE SEED: the statements are not yours to turn. If you find one false, say at which input.
  Laid BY PROGRAM, IN A SANDBOX (cutbox-rows.mjs): the forced cells as the released guide's own fill.sh prints them over the translation c19379371ebaea08… (all of the seat's roots in one cut). By AI agents, Wed Nov 11 2026. No macro, syntax, notation, axiom, sorry.
-/
import Derived.Test.YthlofokgbogndabChecked
import GoSem.Claim
import GoSem.ClaimJoined
import GoSem.ClaimMapViews
import Derived.JoinedTies
import Derived.KernelRfl
namespace Go.Proofs.Ythlofokgbogndab
/- THE CELL 'sum', in the pinned program and in every row, IS THE sha256 OF THE DUMP (.gsa) THAT YthlofokgbogndabProg.lean LOADS. Nothing in Lean hashes anything: it is a label: what it is worth is what the hold of that sum in a sandbox is worth. -/
noncomputable def Try.pinned : Pinned := { name := "ythlofokgbogndab", sum := "c19379371ebaea083b6cbd56a73af2f4748bc8b06fb552e69527e3a4e83c03b6", checked := Try.checked }
namespace Rows
def none {H : Type} : Left H := { results := [], args := [] }

/-- 'postbaglaw13.BoxesFits': WHATEVER THE INPUT: true; the input reads as it did. -/
def boxesFitsSpec : ChangeSpec := { name := "boxesFits", fn := fun _ => fun
  | [d1, d2] => { results := [.lit (.bool true)], args := [d1, d2] }
  | _ => none }
def boxesFitsRow : OpenClaim := { program := "ythlofokgbogndab", sum := "c19379371ebaea083b6cbd56a73af2f4748bc8b06fb552e69527e3a4e83c03b6", func := "postbag/postbaglaw13.BoxesFits", spec := "boxesFits", unfollowed := true, recurses := true, apart := false }
def BoxesFitsSaid : Prop := boxesFitsRow.holds Try.pinned (OpenSpec.ofChange boxesFitsSpec)

/-- ITS FALSE NEIGHBOUR: 'it returns false'. Refute it at one input. -/
def boxesFitsWrong : ChangeSpec := { name := "boxesFits", fn := fun _ => fun
  | [d1, d2] => { results := [.lit (.bool false)], args := [d1, d2] }
  | _ => none }
def BoxesFitsWrongFalsely : Prop := boxesFitsRow.holds Try.pinned (OpenSpec.ofChange boxesFitsWrong)

/-- 'postbaglaw13.BoxesStars': WHATEVER THE INPUT: true; the input reads as it did. -/
def boxesStarsSpec : ChangeSpec := { name := "boxesStars", fn := fun _ => fun
  | [d1, d2, d3] => { results := [.lit (.bool true)], args := [d1, d2, d3] }
  | _ => none }
def boxesStarsRow : OpenClaim := { program := "ythlofokgbogndab", sum := "c19379371ebaea083b6cbd56a73af2f4748bc8b06fb552e69527e3a4e83c03b6", func := "postbag/postbaglaw13.BoxesStars", spec := "boxesStars", unfollowed := true, recurses := true, apart := false }
def BoxesStarsSaid : Prop := boxesStarsRow.holds Try.pinned (OpenSpec.ofChange boxesStarsSpec)

/-- ITS FALSE NEIGHBOUR: 'it returns false'. Refute it at one input. -/
def boxesStarsWrong : ChangeSpec := { name := "boxesStars", fn := fun _ => fun
  | [d1, d2, d3] => { results := [.lit (.bool false)], args := [d1, d2, d3] }
  | _ => none }
def BoxesStarsWrongFalsely : Prop := boxesStarsRow.holds Try.pinned (OpenSpec.ofChange boxesStarsWrong)

/-- 'postbaglaw13.BoxesMoves': WHATEVER THE INPUT: true; the input reads as it did. -/
def boxesMovesSpec : ChangeSpec := { name := "boxesMoves", fn := fun _ => fun
  | [d1, d2, d3] => { results := [.lit (.bool true)], args := [d1, d2, d3] }
  | _ => none }
def boxesMovesRow : OpenClaim := { program := "ythlofokgbogndab", sum := "c19379371ebaea083b6cbd56a73af2f4748bc8b06fb552e69527e3a4e83c03b6", func := "postbag/postbaglaw13.BoxesMoves", spec := "boxesMoves", unfollowed := true, recurses := true, apart := false }
def BoxesMovesSaid : Prop := boxesMovesRow.holds Try.pinned (OpenSpec.ofChange boxesMovesSpec)

/-- ITS FALSE NEIGHBOUR: 'it returns false'. Refute it at one input. -/
def boxesMovesWrong : ChangeSpec := { name := "boxesMoves", fn := fun _ => fun
  | [d1, d2, d3] => { results := [.lit (.bool false)], args := [d1, d2, d3] }
  | _ => none }
def BoxesMovesWrongFalsely : Prop := boxesMovesRow.holds Try.pinned (OpenSpec.ofChange boxesMovesWrong)

/-- 'postbaglaw13.BoxesMatch': WHATEVER THE INPUT: true; the input reads as it did. -/
def boxesMatchSpec : ChangeSpec := { name := "boxesMatch", fn := fun _ => fun
  | [d1, d2] => { results := [.lit (.bool true)], args := [d1, d2] }
  | _ => none }
def boxesMatchRow : OpenClaim := { program := "ythlofokgbogndab", sum := "c19379371ebaea083b6cbd56a73af2f4748bc8b06fb552e69527e3a4e83c03b6", func := "postbag/postbaglaw13.BoxesMatch", spec := "boxesMatch", unfollowed := true, recurses := true, apart := false }
def BoxesMatchSaid : Prop := boxesMatchRow.holds Try.pinned (OpenSpec.ofChange boxesMatchSpec)

/-- ITS FALSE NEIGHBOUR: 'it returns false'. Refute it at one input. -/
def boxesMatchWrong : ChangeSpec := { name := "boxesMatch", fn := fun _ => fun
  | [d1, d2] => { results := [.lit (.bool false)], args := [d1, d2] }
  | _ => none }
def BoxesMatchWrongFalsely : Prop := boxesMatchRow.holds Try.pinned (OpenSpec.ofChange boxesMatchWrong)

/- THE SECOND FORM. 'bulk': how many values and letters a reading holds, each counted each time it is reached (what is shared counts as often as it is met; a slice's spare places count too). A statement '..UptoSaid' is the law's where the arguments, and the package variables that the reading takes, are together of bulk at most 1048576: NARROWER than '..Said'. Prove '..Said' where nothing that the law and all that it calls make is longer than what came in: it says more and counts as full. Else prove '..UptoSaid'. A law counts once. -/
mutual
def uptoBulk {H : Type} : DataW H → Nat
  | .lit (.string bytes) => bytes.length + 1
  | .lit _ => 1
  | .nil => 1
  | .ptr d => uptoBulk d + 1
  | .slice elems spare => uptoBulkAll elems + uptoBulkAll spare + 1
  | .agg parts => uptoBulkAll parts + 1
  | .iface _ d => uptoBulk d + 1
  | .map entries => uptoBulkEntries entries + 1
  | .held _ => 1
def uptoBulkAll {H : Type} : List (DataW H) → Nat
  | [] => 0
  | d :: r => uptoBulk d + uptoBulkAll r
def uptoBulkEntries {H : Type} : List (Lit × DataW H) → Nat
  | [] => 0
  | x :: r => uptoBulkEntry x + uptoBulkEntries r
def uptoBulkEntry {H : Type} : Lit × DataW H → Nat
  | (.string bytes, d) => bytes.length + uptoBulk d + 1
  | (_, d) => uptoBulk d + 1
 end
def uptoSmall : (H : Type) → List (DataW H) → Bool := fun _ ds => decide (uptoBulkAll ds ≤ 1048576)
def OpenSpec.upto (s : _root_.Go.ChangeSpec) : _root_.Go.OpenSpec := { _root_.Go.OpenSpec.ofChange s with cond := some uptoSmall }

/-- 'postbaglaw13.BoxesFits', WHERE WHAT IT READS IS OF BULK AT MOST 1048576: true; the input reads as it did. -/
def boxesFitsUptoRow : OpenClaim := { program := "ythlofokgbogndab", sum := "c19379371ebaea083b6cbd56a73af2f4748bc8b06fb552e69527e3a4e83c03b6", func := "postbag/postbaglaw13.BoxesFits", spec := "boxesFits", unfollowed := true, recurses := true, apart := false, narrowed := true }
def BoxesFitsUptoSaid : Prop := boxesFitsUptoRow.holds Try.pinned (OpenSpec.upto boxesFitsSpec)

/-- 'postbaglaw13.BoxesStars', WHERE WHAT IT READS IS OF BULK AT MOST 1048576: true; the input reads as it did. -/
def boxesStarsUptoRow : OpenClaim := { program := "ythlofokgbogndab", sum := "c19379371ebaea083b6cbd56a73af2f4748bc8b06fb552e69527e3a4e83c03b6", func := "postbag/postbaglaw13.BoxesStars", spec := "boxesStars", unfollowed := true, recurses := true, apart := false, narrowed := true }
def BoxesStarsUptoSaid : Prop := boxesStarsUptoRow.holds Try.pinned (OpenSpec.upto boxesStarsSpec)

/-- 'postbaglaw13.BoxesMoves', WHERE WHAT IT READS IS OF BULK AT MOST 1048576: true; the input reads as it did. -/
def boxesMovesUptoRow : OpenClaim := { program := "ythlofokgbogndab", sum := "c19379371ebaea083b6cbd56a73af2f4748bc8b06fb552e69527e3a4e83c03b6", func := "postbag/postbaglaw13.BoxesMoves", spec := "boxesMoves", unfollowed := true, recurses := true, apart := false, narrowed := true }
def BoxesMovesUptoSaid : Prop := boxesMovesUptoRow.holds Try.pinned (OpenSpec.upto boxesMovesSpec)

/-- 'postbaglaw13.BoxesMatch', WHERE WHAT IT READS IS OF BULK AT MOST 1048576: true; the input reads as it did. -/
def boxesMatchUptoRow : OpenClaim := { program := "ythlofokgbogndab", sum := "c19379371ebaea083b6cbd56a73af2f4748bc8b06fb552e69527e3a4e83c03b6", func := "postbag/postbaglaw13.BoxesMatch", spec := "boxesMatch", unfollowed := true, recurses := true, apart := false, narrowed := true }
def BoxesMatchUptoSaid : Prop := boxesMatchUptoRow.holds Try.pinned (OpenSpec.upto boxesMatchSpec)

end Rows
end Go.Proofs.Ythlofokgbogndab
