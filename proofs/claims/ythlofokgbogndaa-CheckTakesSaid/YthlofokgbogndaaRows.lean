/-
  No cell of these rows narrows 'for every input' (looked for: loops, veiled, ifaces, maps, wideKeys, modest, calm, conditions, laid).
  DERIVED. THE GIVEN ROWS OF THIS SEAT. 4 by the template 'for every input the law returns true; each argument reads behind the call as it read before'; 0 by the template 'total and deterministic' (their statements: YthlofokgbogndaaTotals.lean).
  GIVEN WITH THE SEED: the statements are not yours to turn. If you find one false, say at which input.
  Laid BY PROGRAM, IN A SANDBOX (cutbox-rows.mjs): the forced cells as the released guide's own fill.sh prints them over the translation 686c2a1afa7d61c0… (all of the seat's roots in one cut). By AI agents, Wed Nov 11 2026. No macro, syntax, notation, axiom, sorry.
-/
import Derived.Test.YthlofokgbogndaaChecked
import GoSem.Claim
import GoSem.ClaimJoined
import GoSem.ClaimMapViews
import Derived.JoinedTies
import Derived.KernelRfl
namespace Go.Proofs.Ythlofokgbogndaa
/- THE CELL 'sum', in the pinned program and in every row, IS THE sha256 OF THE DUMP (.gsa) THAT YthlofokgbogndaaProg.lean LOADS. Nothing in Lean hashes anything: it is a label: what it is worth is what the hold of that sum in a sandbox is worth. -/
noncomputable def Try.pinned : Pinned := { name := "ythlofokgbogndaa", sum := "686c2a1afa7d61c0439da8970e13d0708f703e3ec653b342d50dc31c742ecccc", checked := Try.checked }
namespace Rows
def none {H : Type} : Left H := { results := [], args := [] }

/-- 'postbaglaw04.CheckSums': WHATEVER THE INPUT: true; the input reads as it did. -/
def checkSumsSpec : ChangeSpec := { name := "checkSums", fn := fun _ => fun
  | [d1, d2] => { results := [.lit (.bool true)], args := [d1, d2] }
  | _ => none }
def checkSumsRow : OpenClaim := { program := "ythlofokgbogndaa", sum := "686c2a1afa7d61c0439da8970e13d0708f703e3ec653b342d50dc31c742ecccc", func := "postbag/postbaglaw04.CheckSums", spec := "checkSums", apart := false }
def CheckSumsSaid : Prop := checkSumsRow.holds Try.pinned (OpenSpec.ofChange checkSumsSpec)

/-- ITS FALSE NEIGHBOUR: 'it returns false'. Refute it at one input. -/
def checkSumsWrong : ChangeSpec := { name := "checkSums", fn := fun _ => fun
  | [d1, d2] => { results := [.lit (.bool false)], args := [d1, d2] }
  | _ => none }
def CheckSumsWrongFalsely : Prop := checkSumsRow.holds Try.pinned (OpenSpec.ofChange checkSumsWrong)

/-- 'postbaglaw04.CheckPieces': WHATEVER THE INPUT: true; the input reads as it did. -/
def checkPiecesSpec : ChangeSpec := { name := "checkPieces", fn := fun _ => fun
  | [d1, d2] => { results := [.lit (.bool true)], args := [d1, d2] }
  | _ => none }
def checkPiecesRow : OpenClaim := { program := "ythlofokgbogndaa", sum := "686c2a1afa7d61c0439da8970e13d0708f703e3ec653b342d50dc31c742ecccc", func := "postbag/postbaglaw04.CheckPieces", spec := "checkPieces", apart := false }
def CheckPiecesSaid : Prop := checkPiecesRow.holds Try.pinned (OpenSpec.ofChange checkPiecesSpec)

/-- ITS FALSE NEIGHBOUR: 'it returns false'. Refute it at one input. -/
def checkPiecesWrong : ChangeSpec := { name := "checkPieces", fn := fun _ => fun
  | [d1, d2] => { results := [.lit (.bool false)], args := [d1, d2] }
  | _ => none }
def CheckPiecesWrongFalsely : Prop := checkPiecesRow.holds Try.pinned (OpenSpec.ofChange checkPiecesWrong)

/-- 'postbaglaw04.CheckTakes': WHATEVER THE INPUT: true; the input reads as it did. -/
def checkTakesSpec : ChangeSpec := { name := "checkTakes", fn := fun _ => fun
  | [d] => { results := [.lit (.bool true)], args := [d] }
  | _ => none }
def checkTakesRow : OpenClaim := { program := "ythlofokgbogndaa", sum := "686c2a1afa7d61c0439da8970e13d0708f703e3ec653b342d50dc31c742ecccc", func := "postbag/postbaglaw04.CheckTakes", spec := "checkTakes", apart := false }
def CheckTakesSaid : Prop := checkTakesRow.holds Try.pinned (OpenSpec.ofChange checkTakesSpec)

/-- ITS FALSE NEIGHBOUR: 'it returns false'. Refute it at one input. -/
def checkTakesWrong : ChangeSpec := { name := "checkTakes", fn := fun _ => fun
  | [d] => { results := [.lit (.bool false)], args := [d] }
  | _ => none }
def CheckTakesWrongFalsely : Prop := checkTakesRow.holds Try.pinned (OpenSpec.ofChange checkTakesWrong)

/-- 'postbaglaw04.CheckRows': WHATEVER THE INPUT: true; the input reads as it did. -/
def checkRowsSpec : ChangeSpec := { name := "checkRows", fn := fun _ => fun
  | [d1, d2] => { results := [.lit (.bool true)], args := [d1, d2] }
  | _ => none }
def checkRowsRow : OpenClaim := { program := "ythlofokgbogndaa", sum := "686c2a1afa7d61c0439da8970e13d0708f703e3ec653b342d50dc31c742ecccc", func := "postbag/postbaglaw04.CheckRows", spec := "checkRows", apart := false }
def CheckRowsSaid : Prop := checkRowsRow.holds Try.pinned (OpenSpec.ofChange checkRowsSpec)

/-- ITS FALSE NEIGHBOUR: 'it returns false'. Refute it at one input. -/
def checkRowsWrong : ChangeSpec := { name := "checkRows", fn := fun _ => fun
  | [d1, d2] => { results := [.lit (.bool false)], args := [d1, d2] }
  | _ => none }
def CheckRowsWrongFalsely : Prop := checkRowsRow.holds Try.pinned (OpenSpec.ofChange checkRowsWrong)

/- THE SECOND FORM. 'bulk': how many values and letters a reading holds, each counted each time it is reached (what is shared counts as often as it is met; a slice's spare places count too). A statement '..UptoSaid' is the law's where the arguments, and the package variables that the reading takes, are together of bulk at most 1048576: NARROWER than '..Said'. Prove '..Said' where nothing that the law and all that it calls make is longer than what came in: it says more and counts as full. Else prove '..UptoSaid'. A law counts once. -/
mutual
def uptoBulk {H : Type} : DataW H → Nat
  | .lit (.string bytes) => bytes.length + 1
  | .lit _ => 1
  | .nil => 1
  | .ptr d => uptoBulk d + 1
  | .slice elems spare => uptoBulkAll elems + uptoBulkAll spare + 1
  | .agg parts => uptoBulkAll parts + 1
  | .iface _ d => uptoBulk d + 1
  | .map entries => uptoBulkEntries entries + 1
  | .held _ => 1
def uptoBulkAll {H : Type} : List (DataW H) → Nat
  | [] => 0
  | d :: r => uptoBulk d + uptoBulkAll r
def uptoBulkEntries {H : Type} : List (Lit × DataW H) → Nat
  | [] => 0
  | x :: r => uptoBulkEntry x + uptoBulkEntries r
def uptoBulkEntry {H : Type} : Lit × DataW H → Nat
  | (.string bytes, d) => bytes.length + uptoBulk d + 1
  | (_, d) => uptoBulk d + 1
 end
def uptoSmall : (H : Type) → List (DataW H) → Bool := fun _ ds => decide (uptoBulkAll ds ≤ 1048576)
def OpenSpec.upto (s : _root_.Go.ChangeSpec) : _root_.Go.OpenSpec := { _root_.Go.OpenSpec.ofChange s with cond := some uptoSmall }

/-- 'postbaglaw04.CheckSums', WHERE WHAT IT READS IS OF BULK AT MOST 1048576: true; the input reads as it did. -/
def checkSumsUptoRow : OpenClaim := { program := "ythlofokgbogndaa", sum := "686c2a1afa7d61c0439da8970e13d0708f703e3ec653b342d50dc31c742ecccc", func := "postbag/postbaglaw04.CheckSums", spec := "checkSums", apart := false, narrowed := true }
def CheckSumsUptoSaid : Prop := checkSumsUptoRow.holds Try.pinned (OpenSpec.upto checkSumsSpec)

/-- 'postbaglaw04.CheckPieces', WHERE WHAT IT READS IS OF BULK AT MOST 1048576: true; the input reads as it did. -/
def checkPiecesUptoRow : OpenClaim := { program := "ythlofokgbogndaa", sum := "686c2a1afa7d61c0439da8970e13d0708f703e3ec653b342d50dc31c742ecccc", func := "postbag/postbaglaw04.CheckPieces", spec := "checkPieces", apart := false, narrowed := true }
def CheckPiecesUptoSaid : Prop := checkPiecesUptoRow.holds Try.pinned (OpenSpec.upto checkPiecesSpec)

/-- 'postbaglaw04.CheckTakes', WHERE WHAT IT READS IS OF BULK AT MOST 1048576: true; the input reads as it did. -/
def checkTakesUptoRow : OpenClaim := { program := "ythlofokgbogndaa", sum := "686c2a1afa7d61c0439da8970e13d0708f703e3ec653b342d50dc31c742ecccc", func := "postbag/postbaglaw04.CheckTakes", spec := "checkTakes", apart := false, narrowed := true }
def CheckTakesUptoSaid : Prop := checkTakesUptoRow.holds Try.pinned (OpenSpec.upto checkTakesSpec)

/-- 'postbaglaw04.CheckRows', WHERE WHAT IT READS IS OF BULK AT MOST 1048576: true; the input reads as it did. -/
def checkRowsUptoRow : OpenClaim := { program := "ythlofokgbogndaa", sum := "686c2a1afa7d61c0439da8970e13d0708f703e3ec653b342d50dc31c742ecccc", func := "postbag/postbaglaw04.CheckRows", spec := "checkRows", apart := false, narrowed := true }
def CheckRowsUptoSaid : Prop := checkRowsUptoRow.holds Try.pinned (OpenSpec.upto checkRowsSpec)

end Rows
end Go.Proofs.Ythlofokgbogndaa
