/- Functions of the program as plain Lean functions, and that the machine's calls do what these say (written by a program of mine, wip/myprint.py, over the kit's print). -/
import Derived.Test.YthjdepipmghbbaaDoorProg
import Derived.Below
import Derived.Deep.Draws
import Derived.Deep.AppendLies
import Derived.Maps.AppendAt
import Derived.OwnWalk
import Derived.Laws.BytesArg
import Derived.Laws.MakeOwn
import Derived.Laws.OwnMore
import Derived.Deep.OwnRows
import Derived.Tactics
import Derived.Lib.ConvBytes
import Derived.Laws.Slices
import Derived.WalkKit
import Derived.KernelRfl
import Derived.RowKit3
import Derived.Deep.LoopGhost
import Derived.Deep.QuietTactic
import Derived.BigQuiet
import Derived.WideLaws
import Derived.Deep.DeepCutAuto
import Derived.Deep.CutBlock
import Derived.Deep.RegionHeld3
import Derived.Laws.Rows
import Derived.Lib.AppendStr
import Derived.ArgAppend
import Derived.Laws.IdiomCopy
import Derived.OrdersHeld
import Derived.Laws.BitsLemmas
import Derived.RowKit
import Derived.Test.YthjdepipmghbbaaDoorEpo5
import Derived.Test.YthjdepipmghbbaaDoorWWords
import Derived.Test.YthjdepipmghbbaaDoorWLast
import Derived.Test.YthjdepipmghbbaaDoorWTab
import Derived.Test.YthjdepipmghbbaaDoorWFour
import Derived.Test.YthjdepipmghbbaaDoorWQPut
import Derived.Test.YthjdepipmghbbaaDoorWApart
import Derived.Test.YthjdepipmghbbaaDoorWArr
import Derived.Test.YthjdepipmghbbaaDoorWZeros
import Derived.Test.YthjdepipmghbbaaDoorWFoot
import Derived.Test.YthjdepipmghbbaaDoorWKept
import Derived.Test.YthjdepipmghbbaaDoorWShare
import Derived.Test.YthjdepipmghbbaaDoorWN
import Derived.Test.YthjdepipmghbbaaDoorWFootNe
import Derived.Test.YthjdepipmghbbaaDoorWAt
import Derived.Test.YthjdepipmghbbaaDoorWEqStruct
import Derived.Test.YthjdepipmghbbaaDoorWRepsOne
import Derived.Test.YthjdepipmghbbaaDoorWInv
import Derived.Test.YthjdepipmghbbaaDoorWInvWords
import Derived.Test.YthjdepipmghbbaaDoorWGuard
import Derived.Test.YthjdepipmghbbaaDoorWNEv
import Derived.Test.YthjdepipmghbbaaDoorWMore
namespace Go.Proofs.YthjdepipmghbbaaDoor.PEpo
open Go.RowKit Go.Proofs.YthjdepipmghbbaaDoorW.PrintWords Go.Proofs.YthjdepipmghbbaaDoorW.PrintLast Go.Proofs.YthjdepipmghbbaaDoorW.PrintMore
attribute [-go_sem] Go.Lib.fold_len8tab Go.Lib.fold_pop8tab Go.Lib.fold_ntz8tab Go.Lib.fold_rev8tab
attribute [local go_sem] max2_int min2_int max_two min_two max_three min_three max_four min_four   -- for this text's walks alone
set_option linter.unusedVariables false
set_option linter.unusedSimpArgs false



def errW : Option Int → Value
  | none => .nilIface
  | some c => .iface 0 (.int .i64 c)
theorem errW_none : errW none = .nilIface := rfl
theorem errW_some (c : Int) : errW (some c) = .iface 0 (.int .i64 c) := rfl

-- the values' own types

end Go.Proofs.YthjdepipmghbbaaDoor.PEpo
