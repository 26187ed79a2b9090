/- What stays through a region that draws its order: of the world in which it begins every block is as it was (for go_region_held3). -/
import Derived.Test.YtclbmgnpgjhlhaaObj
import Derived.Deep.RegionHeld3
namespace Go.Proofs.Ytclbmgnpgjhlhaa
open Go.RowKit
theorem held_drew (W : World) : Below W.heap.size W W.drew ∧ (∀ b o, b < W.heap.size → W.drew.cell? ⟨b, o, none⟩ = W.cell? ⟨b, o, none⟩) :=
  ⟨(Below.refl _ _).drew, fun _ _ _ => rfl⟩
theorem held_of {W w' : World} (h : Below W.heap.size W w') : Below W.heap.size W w' ∧ (∀ b o, b < W.heap.size → w'.cell? ⟨b, o, none⟩ = W.cell? ⟨b, o, none⟩) :=
  ⟨h, fun b o hb => h.cell (p := ⟨b, o, none⟩) hb⟩
theorem held_next {W w1 w2 : World} (h : Below W.heap.size W w1 ∧ (∀ b o, b < W.heap.size → w1.cell? ⟨b, o, none⟩ = W.cell? ⟨b, o, none⟩)) (hb : Below w1.heap.size w1 w2) :
    Below W.heap.size W w2 ∧ (∀ b o, b < W.heap.size → w2.cell? ⟨b, o, none⟩ = W.cell? ⟨b, o, none⟩) :=
  held_of (h.1.trans (hb.mono h.1.size))
theorem held_end {w W w' : World} (hB : Below w.heap.size w W) (h : Below W.heap.size W w' ∧ (∀ b o, b < W.heap.size → w'.cell? ⟨b, o, none⟩ = W.cell? ⟨b, o, none⟩)) : Below w.heap.size w w' :=
  hB.trans (h.1.mono hB.size)
end Go.Proofs.Ytclbmgnpgjhlhaa
