/- Members: the law of those between, walked. -/
import Derived.Test.YtmehafolnpkmhaaDoorMemPure5
import Derived.Test.YtmehafolnpkmhaaDoorMemLawNext
namespace Go.Proofs.YtmehafolnpkmhaaDoor
open Go.RowKit
theorem membersBetween_walk (s : Int) (ws : (Lit.int .u32 s).wf = true) (a : Int) (_ : (Lit.int .i64 a).wf = true) (b : Int) (_ : (Lit.int .i64 b).wf = true) (w : World) (hL : LaidW w) :
    Calls Tryd.prog 6 #[.int .u32 s, .int .i64 a, .int .i64 b] w fun e w' => e = .returned (.bool true) ∧ Below w.heap.size w w' := by
  obtain ⟨x, rfl, hx⟩ := u32_nat ws
  exact PMem.fuglemanlaw05_MembersBetween.calls 300 x a b true w (PMem.between_law x a b hx) hL
end Go.Proofs.YtmehafolnpkmhaaDoor
