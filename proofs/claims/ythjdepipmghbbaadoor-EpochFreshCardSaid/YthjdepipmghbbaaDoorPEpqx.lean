/- Functions of the program as plain Lean functions, and that the machine's calls do what these say (written by a program of mine, wip/myprint.py, over the kit's print). -/
import Derived.Test.YthjdepipmghbbaaDoorPEpqx0
import Derived.Test.YthjdepipmghbbaaDoorPEpqx1
import Derived.Test.YthjdepipmghbbaaDoorPEpqx2
import Derived.Test.YthjdepipmghbbaaDoorPEpqx3
import Derived.Test.YthjdepipmghbbaaDoorPEpqx4
import Derived.Test.YthjdepipmghbbaaDoorPEpqx5
import Derived.Test.YthjdepipmghbbaaDoorPEpqx6
import Derived.Test.YthjdepipmghbbaaDoorPEpqx7
import Derived.Test.YthjdepipmghbbaaDoorPEpqx8
namespace Go.Proofs.YthjdepipmghbbaaDoor.PEpq
open Go.RowKit Go.Proofs.YthjdepipmghbbaaDoorW.PrintWords Go.Proofs.YthjdepipmghbbaaDoorW.PrintLast Go.Proofs.YthjdepipmghbbaaDoorW.PrintMore
attribute [-go_sem] Go.Lib.fold_len8tab Go.Lib.fold_pop8tab Go.Lib.fold_ntz8tab Go.Lib.fold_rev8tab
attribute [local go_sem] max2_int min2_int max_two min_two max_three min_three max_four min_four   -- for this text's walks alone
set_option linter.unusedVariables false
set_option linter.unusedSimpArgs false

end Go.Proofs.YthjdepipmghbbaaDoor.PEpq
