/- Epochs: the law of reading, walked. -/
import Derived.Test.YthjdepipmghbbaaDoorEpoArgs
import Derived.Test.YthjdepipmghbbaaDoorEpoPure2
import Derived.Test.YthjdepipmghbbaaDoorShaped
namespace Go.Proofs.YthjdepipmghbbaaDoor
open Go.RowKit
set_option maxRecDepth 100000 in
theorem epochReads_walk {H : Type} {enc : TypeId × Value → H} (s : ByteArray) (_ : s.size ≤ 140737488351232) (v : Value) (d : DataW H) (p : List MemPlace) {w : World}
    (h : DataW.Trod enc Tryd.prog w 0 (fun _ => true) true 24 v d p) (o : Value.okWide Tryd.prog w .any 0 24 v) (_ : ∀ x ∈ d.weights Tryd.prog 24, x ≤ 140737488351232) (_ : World) (hL : LaidW w) :
    Calls Tryd.prog 4 #[.string s, v] w fun e w' => e = .returned (.bool true) ∧ Below w.heap.size w w' := by
  obtain ⟨c, a, i, rfl, hc, ha, hi⟩ := epoch_arg h o
  obtain ⟨k, hk⟩ := PEpq.read_law s c a i hc ha hi
  exact PEpq.fuglemanlaw03_EpochReads.calls k s c a i true w hk hL
end Go.Proofs.YthjdepipmghbbaaDoor
