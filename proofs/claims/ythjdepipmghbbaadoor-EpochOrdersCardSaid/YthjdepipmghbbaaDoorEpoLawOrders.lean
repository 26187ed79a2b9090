/- Epochs: the law of orders, walked. -/
import Derived.Test.YthjdepipmghbbaaDoorEpoArgs
import Derived.Test.YthjdepipmghbbaaDoorShaped
namespace Go.Proofs.YthjdepipmghbbaaDoor
open Go.RowKit
set_option maxRecDepth 100000 in
theorem epochOrders_walk {H : Type} {enc : TypeId × Value → H} (v : Value) (d : DataW H) (p : List MemPlace) {w : World}
    (h : DataW.Trod enc Tryd.prog w 0 (fun _ => true) true 35 v d p) (o : Value.okWide Tryd.prog w .any 0 35 v) (_ : ∀ x ∈ d.weights Tryd.prog 35, x ≤ 140737488351232)
    (v' : Value) (d' : DataW H) (p' : List MemPlace)
    (h' : DataW.Trod enc Tryd.prog w 0 (fun _ => true) true 35 v' d' p') (o' : Value.okWide Tryd.prog w .any 0 35 v') (_ : ∀ x ∈ d'.weights Tryd.prog 35, x ≤ 140737488351232) (_ : World) (hL : LaidW w) :
    Calls Tryd.prog 6 #[v, v'] w fun e w' => e = .returned (.bool true) ∧ Below w.heap.size w w' := by
  obtain ⟨c, a, i, g, rfl, hc, ha, hi, hg⟩ := mark_arg h o
  obtain ⟨c', a', i', g', rfl, hc', ha', hi', hg'⟩ := mark_arg h' o'
  exact PEpq.fuglemanlaw03_EpochOrders.calls (100 + 11) c a i g c' a' i' g' true w (PEpq.orders_law 100 c a i g c' a' i' g' hc ha hi hg hc' ha' hi' hg') hL
end Go.Proofs.YthjdepipmghbbaaDoor
