/- The law WheelRuns, for whatever comes in. -/
import Derived.Test.YtkeeledkdoiglaaDoorWhRuns
namespace Go.Proofs.YtkeeledkdoiglaaDoor
open Go.RowKit
set_option maxRecDepth 100000 in
theorem wheelRuns_walk {H : Type} {enc : TypeId × Value → H} (v : Value) (d : DataW H) (pl : List MemPlace) {w : World}
    (h : DataW.Trod enc Tryd.prog w 0 (fun _ => true) true 22 v d pl) (o : Value.okWide Tryd.prog w .any 0 22 v) (_ : ∀ x ∈ d.weights Tryd.prog 22, x ≤ 140737488351232) (_ : World) (hL : LaidW w) :
    Calls Tryd.prog 4 #[v] w fun e w' => e = .returned (.bool true) ∧ Below w.heap.size w w' := by
  obtain ⟨xs, hA, hok⟩ := Wh.acts_of h o
  exact Wh.wheelRuns_law v xs hok hA hL
end Go.Proofs.YtkeeledkdoiglaaDoor
