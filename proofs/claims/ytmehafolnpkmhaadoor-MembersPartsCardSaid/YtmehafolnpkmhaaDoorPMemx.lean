/- Functions of the program as plain Lean functions, and that the machine's calls do what these say (written by a program of mine, wip/myprint.py, over the kit's print). -/
import Derived.Test.YtmehafolnpkmhaaDoorPMemx0
import Derived.Test.YtmehafolnpkmhaaDoorPMemx1
import Derived.Test.YtmehafolnpkmhaaDoorPMemx2
import Derived.Test.YtmehafolnpkmhaaDoorPMemx3
import Derived.Test.YtmehafolnpkmhaaDoorPMemx4
import Derived.Test.YtmehafolnpkmhaaDoorPMemx5
import Derived.Test.YtmehafolnpkmhaaDoorPMemx6
import Derived.Test.YtmehafolnpkmhaaDoorPMemx7
namespace Go.Proofs.YtmehafolnpkmhaaDoor.PMem
open Go.RowKit Go.Proofs.YtmehafolnpkmhaaDoorW.PrintWords Go.Proofs.YtmehafolnpkmhaaDoorW.PrintLast Go.Proofs.YtmehafolnpkmhaaDoorW.PrintMore
attribute [local go_sem] max2_int min2_int max_two min_two max_three min_three max_four min_four   -- for this text's walks alone
set_option linter.unusedVariables false
set_option linter.unusedSimpArgs false

end Go.Proofs.YtmehafolnpkmhaaDoor.PMem
