/- The walks of Go functions and their mirrors (Q..), or a row over a Pure (Law..), written by the program of this session: a private copy of the print, turned (wip/patch_print.py). No condition beyond what each theorem says. -/
import Derived.Test.YtgefggokgjneoaaQUx0
import Derived.Test.YtgefggokgjneoaaQUx1
import Derived.Test.YtgefggokgjneoaaQUx2
import Derived.Test.YtgefggokgjneoaaQUx3
namespace Go.Proofs.Ytgefggokgjneoaa.QU
open Go.RowKit Go.Proofs.YtgefggokgjneoaaW.PrintWords Go.Proofs.YtgefggokgjneoaaW.PrintLast Go.Proofs.YtgefggokgjneoaaW.PrintMore
attribute [local go_sem] max2_int min2_int max_two min_two max_three min_three max_four min_four   -- for this text's walks alone
set_option linter.unusedVariables false
set_option linter.unusedSimpArgs false

end Go.Proofs.Ytgefggokgjneoaa.QU
