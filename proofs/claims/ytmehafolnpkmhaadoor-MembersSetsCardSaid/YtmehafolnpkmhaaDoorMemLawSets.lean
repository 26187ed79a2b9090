/- Members: the law of sets, walked. -/
import Derived.Test.YtmehafolnpkmhaaDoorMemPure4
import Derived.Test.YtmehafolnpkmhaaDoorMemLawNext
namespace Go.Proofs.YtmehafolnpkmhaaDoor
open Go.RowKit
theorem membersSets_walk (s : Int) (ws : (Lit.int .u32 s).wf = true) (a : Int) (_ : (Lit.int .i64 a).wf = true) (w : World) (hL : LaidW w) :
    Calls Tryd.prog 4 #[.int .u32 s, .int .i64 a] w fun e w' => e = .returned (.bool true) ∧ Below w.heap.size w w' := by
  obtain ⟨x, rfl, hx⟩ := u32_nat ws
  exact PMem.fuglemanlaw05_MembersSets.calls 200 x a true w (PMem.sets_law x a hx) hL
end Go.Proofs.YtmehafolnpkmhaaDoor
