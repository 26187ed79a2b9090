/- The law QueueRuns, for whatever comes in. -/
import Derived.Test.YtkeeledkdoiglaaQrLaw
namespace Go.Proofs.Ytkeeledkdoiglaa
open Go.RowKit
theorem queueRuns_walk {H : Type} {enc : TypeId × Value → H} (p : Int) (_ : (Lit.int .i64 p).wf = true) (v : Value) (d : DataW H) (pl : List MemPlace) {w : World}
    (h : DataW.Trod enc Try.prog w 0 (fun _ => true) true 45 v d pl) (o : Value.okWide Try.prog w .any 0 45 v) (_ : ∀ x ∈ d.weights Try.prog 45, x ≤ 140737488351232) (_ : World) :
    Calls Try.prog 7 #[.int .i64 p, v] w fun e w' => e = .returned (.bool true) ∧ Below w.heap.size w w' := by
  obtain ⟨xs, hA, hok⟩ := Qr.acts_of h o
  exact Qr.queueRuns_law p v xs hok hA
end Go.Proofs.Ytkeeledkdoiglaa
