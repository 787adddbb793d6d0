-- PRINTED BY print.sh 35421559b90ae4d0a3588c463048766b98c2df88dd9212a6774a882060cdf62d: not written by this session
import Derived.Test.YthlofokgbogndaaProg
import Derived.Below
import Derived.Deep.Draws
import Derived.Deep.AppendLies
import Derived.Maps.AppendAt
import Derived.OwnWalk
import Derived.Laws.BytesArg
import Derived.Laws.MakeOwn
import Derived.Laws.OwnMore
import Derived.Deep.OwnRows
import Derived.Tactics
import Derived.Lib.ConvBytes
import Derived.Laws.Slices
import Derived.WalkKit
import Derived.KernelRfl
import Derived.RowKit3
import Derived.Deep.LoopGhost
import Derived.Deep.QuietTactic
import Derived.BigQuiet
import Derived.WideLaws
import Derived.Deep.DeepCutAuto
import Derived.Deep.CutBlock
import Derived.Deep.RegionHeld3
import Derived.Laws.Rows
import Derived.Lib.AppendStr
import Derived.ArgAppend
import Derived.Laws.IdiomCopy
import Derived.OrdersHeld
import Derived.Laws.BitsLemmas
import Derived.RowKit
import Derived.Test.YthlofokgbogndaaWWords
import Derived.Test.YthlofokgbogndaaWLast
import Derived.Test.YthlofokgbogndaaWTab
import Derived.Test.YthlofokgbogndaaWFour
import Derived.Test.YthlofokgbogndaaWQPut
import Derived.Test.YthlofokgbogndaaWApart
import Derived.Test.YthlofokgbogndaaWArr
import Derived.Test.YthlofokgbogndaaWZeros
import Derived.Test.YthlofokgbogndaaWFoot
import Derived.Test.YthlofokgbogndaaWKept
import Derived.Test.YthlofokgbogndaaWShare
import Derived.Test.YthlofokgbogndaaWN
import Derived.Test.YthlofokgbogndaaWFootNe
import Derived.Test.YthlofokgbogndaaWAt
import Derived.Test.YthlofokgbogndaaWEqStruct
import Derived.Test.YthlofokgbogndaaWRepsOne
import Derived.Test.YthlofokgbogndaaWInv
import Derived.Test.YthlofokgbogndaaWInvWords
import Derived.Test.YthlofokgbogndaaWGuard
import Derived.Test.YthlofokgbogndaaWNEv
import Derived.Test.YthlofokgbogndaaWMore
namespace Go.Proofs.Ythlofokgbogndaa.PCheckPieces
open Go.RowKit Go.Proofs.YthlofokgbogndaaW.PrintWords Go.Proofs.YthlofokgbogndaaW.PrintLast Go.Proofs.YthlofokgbogndaaW.PrintMore
attribute [local go_sem] max2_int min2_int max_two min_two max_three min_three max_four min_four   -- for this text's walks alone
set_option linter.unusedVariables false
set_option linter.unusedSimpArgs false



def errW : Option Int → Value
  | none => .nilIface
  | some c => .iface 0 (.int .i64 c)
theorem errW_none : errW none = .nilIface := rfl
theorem errW_some (c : Int) : errW (some c) = .iface 0 (.int .i64 c) := rfl

theorem info5 : (Try.prog.info? 5).map (fun i => (i.zero, i.size, i.bytes)) = some (some (.int .u8 0), 1, 1) := by kernel_rfl
-- the values' own types

end Go.Proofs.Ythlofokgbogndaa.PCheckPieces
