/- awake of the kinds, walked. -/
import Derived.Test.YtclbmgnpgjhlhaaIecGet
import Derived.Test.YtclbmgnpgjhlhaaIecDo
import Derived.Lib.SlBytesConst
namespace Go.Proofs.Ytclbmgnpgjhlhaa
open Go.RowKit
set_option maxRecDepth 100000 in
set_option maxHeartbeats 1000000 in
theorem iawake_any (w : World) : Calls Try.prog 12 #[] w fun e w' => e = .returned (.bool true) ∧ Below w.heap.size w w' := by
  have d1 : doV 14 (kN 2) 127 1 = -128 := by decide +kernel
  have d2 : doE 14 (kN 2) 127 1 = 0 := by decide +kernel
  have hp : putAt [97, 98, 99] 1 (beB (sizeK (kN 3)).toNat (wrapK (kN 3) (-2))) = [97, 255, 254] := by decide +kernel
  have hg : getV (kN 3) ⟨#[97, 255, 254]⟩ 1 2 = -2 := by decide +kernel
  have hs4 : sizeK (kN 4) = 4 := by decide
  have HD := Lib.hid (And.intro d1 (And.intro d2 (And.intro hp (And.intro hg hs4))))
  clear d1 d2 hp hg hs4
  go_enter Try.func12, Try.ntmps12
  go_wp2_with fail
  refine (do_any 14 2 127 1 _).mono ?_
  rintro e w1 ⟨rfl, hb1⟩
  rw [HD.out.1, HD.out.2.1]
  have hrow : RowAt (w1.alloc (.cells #[.int .u8 97, .int .u8 98, .int .u8 99] 5 (3, 4))) w1.heap.size [97, 98, 99] := by
    refine ⟨by show _ < (w1.heap.push _).size; rw [Array.size_push]; omega, fun j hj => ?_, fun j hj => ?_⟩
    · rw [World.cell?_alloc_mark]
      rcases (by simp at hj; omega : j = 0 ∨ j = 1 ∨ j = 2) with rfl | rfl | rfl <;> rfl
    · rw [World.frozen?_alloc_mark]
      simp at hj
      simp
      omega
  have hb2 := hb1.alloc hb1.size (.cells #[.int .u8 97, .int .u8 98, .int .u8 99] 5 (3, 4))
  have kc := fun (w : World) (C : Array Value) (n c : Nat) => Lib.run_convert_bytes_const (P := Try.prog) w 36 5 C n c Try.underlying36 Try.underlying5
  have HR := Lib.hid (And.intro hrow hb2)
  have hsz := hb1.size
  clear hrow hb1 hb2
  go_wp2_with fail
  refine (put_yes w1.heap.size [97, 98, 99] 3 1 3 (-2) (by decide) (by decide) (by decide) _ HR.out.1).mono ?_
  rintro e w2 ⟨rfl, hrow2, hk2⟩
  rw [HD.out.2.2.1] at hrow2
  have hB2 : Below w.heap.size w w2 := HR.out.2.trans (hk2.below HR.out.2.size (fun j hj he => by omega))
  have hcv : ∀ w', w' = w2 → (convert 36 9 (.slice (some ⟨w1.heap.size, 0, none⟩) 3 3)).run Try.prog w' = .ok (.string ⟨#[97, 255, 254]⟩) w' := fun w' h => by
    subst h
    exact row_string hrow2 0 3 3 (by decide)
  have HB2 := Lib.hid (And.intro hB2 hrow2)
  have hcv2 := hcv w2 rfl
  clear hB2 hrow2 hk2 hcv hsz
  go_wp2_with fail
  refine (get_yes ⟨#[97, 255, 254]⟩ 1 2 3 (by decide) (by decide) (by decide) _).mono ?_
  rintro e w3 ⟨rfl, hb3⟩
  rw [HD.out.2.2.2.1]
  have hcv3 := row_string (HB2.out.2.keep (Keep.of_below (S := fun _ => False) hb3) (by simp)) 0 3 3 (by decide)
  have HB3 := Lib.hid (bt HB2.out.1 hb3)
  clear hb3
  go_wp2_with fail
  refine (size_any 4 _).mono ?_
  rintro e w4 ⟨rfl, hb4⟩
  rw [HD.out.2.2.2.2]
  go_wp2
  go_ret
  exact ⟨rfl, bt HB3.out hb4⟩
end Go.Proofs.Ytclbmgnpgjhlhaa
