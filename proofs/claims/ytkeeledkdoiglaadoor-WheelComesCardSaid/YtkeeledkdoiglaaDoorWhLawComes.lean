/- The law WheelComes, for whatever comes in. -/
import Derived.Test.YtkeeledkdoiglaaDoorWhComes
namespace Go.Proofs.YtkeeledkdoiglaaDoor
open Go.RowKit
set_option maxRecDepth 100000 in
theorem wheelComes_walk {H : Type} {enc : TypeId × Value → H} (i : Int) (hi : (Lit.int .u8 i).wf = true) (ticks : Int) (_ : (Lit.int .i64 ticks).wf = true) (v : Value) (d : DataW H) (pl : List MemPlace) {w : World}
    (h : DataW.Trod enc Tryd.prog w 0 (fun _ => true) true 22 v d pl) (o : Value.okWide Tryd.prog w .any 0 22 v) (_ : ∀ x ∈ d.weights Tryd.prog 22, x ≤ 140737488351232) (_ : World) (hL : LaidW w) :
    Calls Tryd.prog 3 #[.int .u8 i, .int .i64 ticks, v] w fun e w' => e = .returned (.bool true) ∧ Below w.heap.size w w' := by
  obtain ⟨xs, hA, hok⟩ := Wh.acts_of h o
  have hb := Wh.u8b_of hi
  obtain ⟨n, rfl⟩ := Int.eq_ofNat_of_zero_le hb.1
  exact Wh.wheelComes_law n (by omega) ticks v xs hok hA hL
end Go.Proofs.YtkeeledkdoiglaaDoor
