/- The closure of the law IecLogic, walked: an operation on the captured kind. -/
import Derived.Test.YtclbmgnpgjhlhaaIecLogPlain
namespace Go.Proofs.Ytclbmgnpgjhlhaa
open Go.RowKit
theorem lgdo_any (g : Nat) (K op x y : Int) (w : World) (hc : w.cell? ⟨g, 0, none⟩ = some (.int .i64 K)) :
    Calls Try.prog 29 #[.int .i64 op, .int .i64 x, .int .i64 y, .pointer (some ⟨g, 0, none⟩)] w fun e w' => e = .returned (.int .i64 (lgV op (kN K) x y)) ∧ Below w.heap.size w w' := by
  go_enter Try.func29, Try.ntmps29
  go_wp2_with fail
  refine (do_any op K x y _).mono ?_
  rintro e w1 ⟨rfl, hb1⟩
  have HB := Lib.hid hb1
  clear hb1 hc
  have hcase : doE op (kN K) x y = 0 ∨ doE op (kN K) x y = 1 ∨ doE op (kN K) x y = 6 := by
    unfold doE
    split
    · omega
    split <;> omega
  rcases hcase with h | h | h
  · have hv : lgV op (kN K) x y = doV op (kN K) x y := by unfold lgV; rw [if_pos h]
    rw [h]
    have HV := Lib.hid hv
    clear hv h
    go_wp2
    go_ret
    exact ⟨by rw [HV.out]; rfl, HB.out⟩
  · have hv : lgV op (kN K) x y = -1 := by unfold lgV; rw [if_neg (by omega)]
    rw [h]
    have HV := Lib.hid hv
    clear hv h
    go_wp2
    go_ret
    exact ⟨by rw [HV.out]; rfl, HB.out⟩
  · have hv : lgV op (kN K) x y = -1 := by unfold lgV; rw [if_neg (by omega)]
    rw [h]
    have HV := Lib.hid hv
    clear hv h
    go_wp2
    go_ret
    exact ⟨by rw [HV.out]; rfl, HB.out⟩
end Go.Proofs.Ytclbmgnpgjhlhaa
