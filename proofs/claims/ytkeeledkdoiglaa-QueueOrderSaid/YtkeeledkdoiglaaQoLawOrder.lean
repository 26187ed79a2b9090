/- The law QueueOrder, for whatever comes in. -/
import Derived.Test.YtkeeledkdoiglaaQoLaw
namespace Go.Proofs.Ytkeeledkdoiglaa
open Go.RowKit
theorem queueOrder_walk {H : Type} {enc : TypeId × Value → H} (p : Int) (wp : (Lit.int .u8 p).wf = true) (v : Value) (d : DataW H) (pl : List MemPlace) {w : World}
    (h : DataW.Trod enc Try.prog w 0 (fun _ => true) true 65 v d pl) (o : Value.okWide Try.prog w .any 0 65 v) (_ : ∀ x ∈ d.weights Try.prog 65, x ≤ 140737488351232)
    (v2 : Value) (d2 : DataW H) (pl2 : List MemPlace) (h2 : DataW.Trod enc Try.prog w 0 (fun _ => true) true 65 v2 d2 pl2) (o2 : Value.okWide Try.prog w .any 0 65 v2) (_ : ∀ x ∈ d2.weights Try.prog 65, x ≤ 140737488351232) (_ : World) :
    Calls Try.prog 8 #[.int .u8 p, v, v2] w fun e w' => e = .returned (.bool true) ∧ Below w.heap.size w w' := by
  obtain ⟨p, rfl, hp⟩ : ∃ n : Nat, p = (n : Int) ∧ n < 256 := by
    simp [Lit.wf, IntKind.min, IntKind.max, IntKind.bits, IntKind.signed] at wp
    exact ⟨p.toNat, by omega, by omega⟩
  obtain ⟨a, len, cap, z, rfl, hz, h1, h2'⟩ := isB_of (e := 4) (by kernel_rfl) (by kernel_rfl) (by kernel_rfl) h o
  obtain ⟨a', len', cap', z', rfl, hz', h1', h2''⟩ := isB_of (e := 4) (by kernel_rfl) (by kernel_rfl) (by kernel_rfl) h2 o2
  exact Qo.queueOrder_law p hp a a' len cap len' cap' z z' w hz hz' (Nat.le_trans h1 h2') (Nat.le_trans h1' h2'')
end Go.Proofs.Ytkeeledkdoiglaa
