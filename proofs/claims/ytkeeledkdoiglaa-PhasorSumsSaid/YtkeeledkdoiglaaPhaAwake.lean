/- awake of the phasors, walked. -/
import Derived.Test.YtkeeledkdoiglaaPhaStrong
namespace Go.Proofs.Ytkeeledkdoiglaa
open Go.RowKit
set_option maxRecDepth 100000 in
theorem pawake_any (w : World) :
    Calls Try.prog 9 #[] w fun e w' => e = .returned (.bool true) ∧ Below w.heap.size w w' := by
  have hrow : IRow (w.alloc (.cells #[.int .i64 5, .int .i64 1, .int .i64 5, .int .i64 1] 3)) (.slice (some ⟨w.heap.size, 0, none⟩) 4 4) [5, 1, 5, 1] := by
    refine .inr (.inr ⟨w.heap.size, 0, 4, rfl, by decide, by decide, by simp, fun i hi => ?_⟩)
    rw [(ObjAt.new w _ _).cell]
    rcases (by simp at hi; omega : i = 0 ∨ i = 1 ∨ i = 2 ∨ i = 3) with rfl | rfl | rfl | rfl <;> rfl
  have HR := Lib.hid hrow
  clear hrow
  go_enter Try.func9, Try.ntmps9
  go_wp2_with fail
  refine (of_any 3 5 _).mono ?_
  rintro e w' ⟨r1, i1, rfl, hr1, hi1, rfl⟩
  go_wp2_with fail
  refine (turn_fl (z := (smallZ 3, smallZ 5)) 1 hr1 hi1 (by unfold BdZ; decide) _).mono ?_
  rintro e w' ⟨r2, i2, rfl, hr2, hi2, rfl⟩
  rw [show turnZ (smallZ 3, smallZ 5) 1 = (-5, 3) by decide] at hr2 hi2
  go_wp2_with fail
  refine (parts_fl hr2 hi2 (by decide) (by decide) _).mono ?_
  rintro e w' ⟨rfl, rfl⟩
  clear hr1 hi1 hr2 hi2
  go_wp2_with fail
  refine (bin_any HR.out 2).mono ?_
  rintro e w' ⟨r3, i3, rfl, hr3, hi3, rfl⟩
  rw [show binZ [5, 1, 5, 1] 2 (min ([5, 1, 5, 1] : List Int).length 1000) = (8, 0) by decide] at hr3 hi3
  go_wp2_with fail
  refine (parts_fl hr3 hi3 (by decide) (by decide) _).mono ?_
  rintro e w' ⟨rfl, rfl⟩
  clear hr3 hi3
  go_wp2_with fail
  refine (of_any 3 4 _).mono ?_
  rintro e w' ⟨r4, i4, rfl, hr4, hi4, rfl⟩
  go_wp2_with fail
  refine (power_fl (z := (smallZ 3, smallZ 4)) hr4 hi4 (by unfold BdZ; decide) _).mono ?_
  rintro e w' ⟨rfl, rfl⟩
  rw [show powZ (smallZ 3, smallZ 4) = 25 by decide]
  clear hr4 hi4
  go_wp2
  go_ret
  exact ⟨rfl, (Below.refl _ _).alloc (Nat.le_refl _) _⟩
end Go.Proofs.Ytkeeledkdoiglaa
