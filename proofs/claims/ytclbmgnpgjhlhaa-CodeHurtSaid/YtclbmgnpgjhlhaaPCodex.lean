/- Functions of the program as plain Lean functions, and that the machine's calls do what these say (written by a program of mine, wip/myprint.py, over the kit's print). -/
import Derived.Test.YtclbmgnpgjhlhaaPCodex0
import Derived.Test.YtclbmgnpgjhlhaaPCodex1
import Derived.Test.YtclbmgnpgjhlhaaPCodex2
import Derived.Test.YtclbmgnpgjhlhaaPCodex3
import Derived.Test.YtclbmgnpgjhlhaaPCodex4
import Derived.Test.YtclbmgnpgjhlhaaPCodex5
import Derived.Test.YtclbmgnpgjhlhaaPCodex6
import Derived.Test.YtclbmgnpgjhlhaaPCodex7
import Derived.Test.YtclbmgnpgjhlhaaPCodex8
namespace Go.Proofs.Ytclbmgnpgjhlhaa.PCode
open Go.RowKit Go.Proofs.YtclbmgnpgjhlhaaW.PrintWords Go.Proofs.YtclbmgnpgjhlhaaW.PrintLast Go.Proofs.YtclbmgnpgjhlhaaW.PrintMore
attribute [local go_sem] max2_int min2_int max_two min_two max_three min_three max_four min_four   -- for this text's walks alone
set_option linter.unusedVariables false
set_option linter.unusedSimpArgs false

end Go.Proofs.Ytclbmgnpgjhlhaa.PCode
