/- The law of sums: its walk. -/
import Derived.Test.YtpkgpffodkfncaaCrcAwake
import Derived.Test.YtpkgpffodkfncaaCrcPlain
import Derived.OpenShut
namespace Go.Proofs.Ytpkgpffodkfncaa
open Go.RowKit
set_option maxRecDepth 100000 in
theorem crcSums_walk (s : ByteArray) (hs : s.size ≤ 140737488351232) (n : Int) (hn : (Lit.int .u16 n).wf = true) (w : World) :
    Calls Try.prog 3 #[.string s, .int .u16 n] w fun e w' => e = .returned (.bool true) ∧ Below w.heap.size w w' := by
  have hb := bounds_u16 hn
  obtain ⟨m, rfl⟩ := Int.eq_ofNat_of_zero_le hb.1
  have hm : m < 65536 := by omega
  have H1 := Lib.hid (Crc.more_eq 65535 (by decide) s.data.toList)
  have H2 := Lib.hid (Crc.more_eq m hm s.data.toList)
  by_cases hl : (s.size : Int) ≤ 3000
  · go_enter Try.func3, Try.ntmps3
    go_wp2_with fail
    refine (awake_any w).mono ?_
    rintro e w1 ⟨rfl, hb1⟩
    go_wp2_with fail
    refine (sum_any s (by unfold maxLen; omega) w1).mono ?_
    rintro e w' ⟨rfl, rfl⟩
    go_wp2_with fail
    refine (rsum_any s (by unfold maxLen; omega) w1).mono ?_
    rintro e w' ⟨rfl, rfl⟩
    rw [H1.out]
    go_wp2_with fail
    refine (more_any m hm s (by unfold maxLen; omega) w1).mono ?_
    rintro e w' ⟨rfl, rfl⟩
    go_wp2_with fail
    refine (rmore_any m hm s (by unfold maxLen; omega) w1).mono ?_
    rintro e w' ⟨rfl, rfl⟩
    rw [H2.out]
    go_wp2
    go_ret
    exact ⟨rfl, hb1⟩
  · go_enter Try.func3, Try.ntmps3
    go_wp2_with fail
    refine (awake_any w).mono ?_
    rintro e w1 ⟨rfl, hb1⟩
    go_wp2
    go_ret
    exact ⟨rfl, hb1⟩
end Go.Proofs.Ytpkgpffodkfncaa
