/- The law WheelSkips, for whatever comes in. -/
import Derived.Test.YtkeeledkdoiglaaDoorWhSkips
namespace Go.Proofs.YtkeeledkdoiglaaDoor
open Go.RowKit
set_option maxRecDepth 100000 in
theorem wheelSkips_walk {H : Type} {enc : TypeId × Value → H} (v : Value) (d : DataW H) (pl : List MemPlace) {w : World}
    (h : DataW.Trod enc Tryd.prog w 0 (fun _ => true) true 22 v d pl) (o : Value.okWide Tryd.prog w .any 0 22 v) (_ : ∀ x ∈ d.weights Tryd.prog 22, x ≤ 140737488351232)
    (a : Int) (_ : (Lit.int .i64 a).wf = true) (b : Int) (_ : (Lit.int .i64 b).wf = true) (_ : World) (hL : LaidW w) :
    Calls Tryd.prog 5 #[v, .int .i64 a, .int .i64 b] w fun e w' => e = .returned (.bool true) ∧ Below w.heap.size w w' := by
  obtain ⟨xs, hA, hok⟩ := Wh.acts_of h o
  exact Wh.wheelSkips_law v a b xs hok hA hL
end Go.Proofs.YtkeeledkdoiglaaDoor
