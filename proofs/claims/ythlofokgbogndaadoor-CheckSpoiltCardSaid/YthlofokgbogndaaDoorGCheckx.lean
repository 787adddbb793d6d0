/- Written by a program of mine (wip/tools/mkprint.py turns the kit's print; given contracts by hand). Lean checks it. -/
import Derived.Test.YthlofokgbogndaaDoorGCheckx0
import Derived.Test.YthlofokgbogndaaDoorGCheckx1
import Derived.Test.YthlofokgbogndaaDoorGCheckx2
import Derived.Test.YthlofokgbogndaaDoorGCheckx3
namespace Go.Proofs.YthlofokgbogndaaDoor.GCheck
open Go.RowKit Go.Proofs.YthlofokgbogndaaDoorW.PrintWords Go.Proofs.YthlofokgbogndaaDoorW.PrintLast Go.Proofs.YthlofokgbogndaaDoorW.PrintMore
attribute [local go_sem] max2_int min2_int max_two min_two max_three min_three max_four min_four   -- for this text's walks alone
set_option linter.unusedVariables false
set_option linter.unusedSimpArgs false

end Go.Proofs.YthlofokgbogndaaDoor.GCheck
