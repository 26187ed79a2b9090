/- Members: the law of next ones, walked. -/
import Derived.Test.YtmehafolnpkmhaaDoorMemPure3
namespace Go.Proofs.YtmehafolnpkmhaaDoor
open Go.RowKit
theorem u32_nat {s : Int} (ws : (Lit.int .u32 s).wf = true) : ∃ x : Nat, s = (x : Int) ∧ x < 4294967296 := by
  have h : IntKind.u32.min ≤ s ∧ s ≤ IntKind.u32.max := by simpa [Lit.wf] using ws
  have h1 : IntKind.u32.min = 0 := rfl
  have h2 : IntKind.u32.max = 4294967295 := rfl
  exact ⟨s.toNat, by omega, by omega⟩
theorem membersNext_walk (s : Int) (ws : (Lit.int .u32 s).wf = true) (a : Int) (_ : (Lit.int .i64 a).wf = true) (w : World) (hL : LaidW w) :
    Calls Tryd.prog 3 #[.int .u32 s, .int .i64 a] w fun e w' => e = .returned (.bool true) ∧ Below w.heap.size w w' := by
  obtain ⟨x, rfl, hx⟩ := u32_nat ws
  exact PMem.fuglemanlaw05_MembersNext.calls 200 x a true w (PMem.next_law x a hx) hL
end Go.Proofs.YtmehafolnpkmhaaDoor
