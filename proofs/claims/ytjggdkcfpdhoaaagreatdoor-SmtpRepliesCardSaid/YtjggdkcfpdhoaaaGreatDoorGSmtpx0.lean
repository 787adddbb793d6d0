/- Written by a program of mine (wip/tools/mkprint.py turns the kit's print; given contracts by hand). Lean checks it. -/
import Derived.Test.YtjggdkcfpdhoaaaGreatDoorProg
import Derived.Below
import Derived.Deep.Draws
import Derived.Deep.AppendLies
import Derived.Maps.AppendAt
import Derived.OwnWalk
import Derived.Laws.BytesArg
import Derived.Laws.MakeOwn
import Derived.Laws.OwnMore
import Derived.Deep.OwnRows
import Derived.Tactics
import Derived.Lib.ConvBytes
import Derived.Laws.Slices
import Derived.WalkKit
import Derived.KernelRfl
import Derived.RowKit3
import Derived.Deep.LoopGhost
import Derived.Deep.QuietTactic
import Derived.BigQuiet
import Derived.WideLaws
import Derived.Deep.DeepCutAuto
import Derived.Deep.CutBlock
import Derived.Deep.RegionHeld3
import Derived.Laws.Rows
import Derived.Lib.AppendStr
import Derived.ArgAppend
import Derived.Laws.IdiomCopy
import Derived.OrdersHeld
import Derived.Laws.BitsLemmas
import Derived.RowKit
import Derived.Test.YtjggdkcfpdhoaaaGreatDoorBase
import Derived.RangeFuncGives
import Derived.RangeFuncSeq
import Derived.OwnWalkIn
import Derived.TacticsInMore
import Derived.RegionIn
import Derived.LoopNIn
import Derived.LoopIn
import Derived.Shelf.Abstract
import Derived.StillTailTactics
import Derived.IntWalk
import Derived.WalkSpells
import Derived.Lib.SlBytesConst
import Derived.Test.YtjggdkcfpdhoaaaGreatDoorWWords
import Derived.Test.YtjggdkcfpdhoaaaGreatDoorWLast
import Derived.Test.YtjggdkcfpdhoaaaGreatDoorWTab
import Derived.Test.YtjggdkcfpdhoaaaGreatDoorWFour
import Derived.Test.YtjggdkcfpdhoaaaGreatDoorWQPut
import Derived.Test.YtjggdkcfpdhoaaaGreatDoorWApart
import Derived.Test.YtjggdkcfpdhoaaaGreatDoorWArr
import Derived.Test.YtjggdkcfpdhoaaaGreatDoorWZeros
import Derived.Test.YtjggdkcfpdhoaaaGreatDoorWFoot
import Derived.Test.YtjggdkcfpdhoaaaGreatDoorWKept
import Derived.Test.YtjggdkcfpdhoaaaGreatDoorWShare
import Derived.Test.YtjggdkcfpdhoaaaGreatDoorWN
import Derived.Test.YtjggdkcfpdhoaaaGreatDoorWFootNe
import Derived.Test.YtjggdkcfpdhoaaaGreatDoorWAt
import Derived.Test.YtjggdkcfpdhoaaaGreatDoorWEqStruct
import Derived.Test.YtjggdkcfpdhoaaaGreatDoorWRepsOne
import Derived.Test.YtjggdkcfpdhoaaaGreatDoorWInv
import Derived.Test.YtjggdkcfpdhoaaaGreatDoorWInvWords
import Derived.Test.YtjggdkcfpdhoaaaGreatDoorWGuard
import Derived.Test.YtjggdkcfpdhoaaaGreatDoorWNEv
import Derived.Test.YtjggdkcfpdhoaaaGreatDoorWMore
namespace Go.Proofs.YtjggdkcfpdhoaaaGreatDoor.GSmtp
open Go.RowKit Go.Proofs.YtjggdkcfpdhoaaaGreatDoorW.PrintWords Go.Proofs.YtjggdkcfpdhoaaaGreatDoorW.PrintLast Go.Proofs.YtjggdkcfpdhoaaaGreatDoorW.PrintMore
attribute [local go_sem] max2_int min2_int max_two min_two max_three min_three max_four min_four   -- for this text's walks alone
set_option linter.unusedVariables false
set_option linter.unusedSimpArgs false



def errW : Option Int → Value
  | none => .nilIface
  | some c => .iface 0 (.int .i64 c)
theorem errW_none : errW none = .nilIface := rfl
theorem errW_some (c : Int) : errW (some c) = .iface 0 (.int .i64 c) := rfl

theorem info5 : (Tryz.prog.info? 5).map (fun i => (i.zero, i.size, i.bytes)) = some (some (.int .u8 0), 1, 1) := by kernel_rfl
theorem info9 : (Tryz.prog.info? 9).map (fun i => (i.zero, i.size, i.bytes)) = some (some (.string ⟨#[]⟩), 1, 16) := by kernel_rfl
-- the values' own types

end Go.Proofs.YtjggdkcfpdhoaaaGreatDoor.GSmtp
