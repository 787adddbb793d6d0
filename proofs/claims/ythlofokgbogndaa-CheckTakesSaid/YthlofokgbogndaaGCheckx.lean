/- Written by a program of mine (wip/tools/mkprint.py turns the kit's print; given contracts by hand). Lean checks it. -/
import Derived.Test.YthlofokgbogndaaGCheckx0
import Derived.Test.YthlofokgbogndaaGCheckx1
import Derived.Test.YthlofokgbogndaaGCheckx2
import Derived.Test.YthlofokgbogndaaGCheckx3
import Derived.Test.YthlofokgbogndaaGCheckx4
namespace Go.Proofs.Ythlofokgbogndaa.GCheck
open Go.RowKit Go.Proofs.YthlofokgbogndaaW.PrintWords Go.Proofs.YthlofokgbogndaaW.PrintLast Go.Proofs.YthlofokgbogndaaW.PrintMore
attribute [local go_sem] max2_int min2_int max_two min_two max_three min_three max_four min_four   -- for this text's walks alone
set_option linter.unusedVariables false
set_option linter.unusedSimpArgs false

end Go.Proofs.Ythlofokgbogndaa.GCheck
