/- The laws' own first line: awake; and the law of sums. -/
import Derived.Test.YtpkgpffodkfncaaCrcRburst
namespace Go.Proofs.Ytpkgpffodkfncaa
open Go.RowKit
theorem awake_sealed : Crc.opened (Crc.sealed ⟨#[97, 98]⟩) = (⟨#[97, 98]⟩, true) := by decide +kernel
theorem awake_sum : Crc.more 65535 (⟨#[49, 50, 51, 52, 53, 54, 55, 56, 57]⟩ : ByteArray).data.toList = 10673 := by decide +kernel
theorem awake_burst : Crc.burst ⟨#[0]⟩ 0 32768 = ⟨#[128]⟩ := by decide +kernel
set_option maxRecDepth 100000 in
theorem awake_any (w : World) :
    Calls Try.prog 14 #[] w fun e w' => e = .returned (.bool true) ∧ Below w.heap.size w w' := by
  have H1 := Lib.hid awake_sealed
  have H2 := Lib.hid awake_sum
  have H3 := Lib.hid awake_burst
  go_enter Try.func14, Try.ntmps14
  go_wp2_with fail
  refine (sealed_any ⟨#[97, 98]⟩ (by decide +kernel) w).mono ?_
  rintro e w1 ⟨rfl, hb1⟩
  go_wp2_with fail
  refine (open_any _ (by decide +kernel) w1).mono ?_
  rintro e w' ⟨rfl, rfl⟩
  rw [H1.out]
  go_wp2_with fail
  refine (sum_any _ (by decide +kernel) w1).mono ?_
  rintro e w' ⟨rfl, rfl⟩
  rw [H2.out]
  go_wp2_with fail
  refine (burst_any ⟨#[0]⟩ (by decide +kernel) 0 32768 (by decide) w1).mono ?_
  rintro e w2 ⟨rfl, hb2⟩
  rw [H3.out]
  go_wp2
  go_ret
  exact ⟨rfl, hb1.trans (hb2.mono hb1.size)⟩
end Go.Proofs.Ytpkgpffodkfncaa
