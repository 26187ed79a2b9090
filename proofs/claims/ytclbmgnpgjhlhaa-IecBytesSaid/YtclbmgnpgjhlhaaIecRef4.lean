/- The document's Not (made by wip/mk_iecref.py). -/
import Derived.Test.YtclbmgnpgjhlhaaIecRef3
namespace Go.Proofs.Ytclbmgnpgjhlhaa
open Go.RowKit
set_option maxRecDepth 100000 in
set_option maxHeartbeats 1000000 in
theorem rnot_1 (v : Int) (w : World) : Calls Try.prog 17 #[.int .i64 1, .int .i64 v] w fun e w' => e = .returned (.int .i64 (notK 1 v)) ∧ Below w.heap.size w w' := by
  have hb0 := Below.refl w.heap.size w
  cases hi : isK 1 v with
  | false =>
    have hn : notK 1 v = 0 := by simp [notK, hi]
    have HI := Lib.hid hi
    rw [hn]
    clear hn hi
    go_enter Try.func17, Try.ntmps17
    go_wp2_with fail
    refine (ris_1 v _).mono ?_
    rintro e w1 ⟨rfl, hb1⟩
    rw [HI.out]
    go_wp2
    go_ret
    exact ⟨rfl, hb1⟩
  | true =>
    have hr := hi
    rw [isK_range] at hr
    simp [leastK, manyK] at hr
    have hn : notK 1 v = 1 - v := by simp [notK, hi, bitsK, manyK]
    have HI := Lib.hid hi
    have HN := Lib.hid hn
    obtain ⟨h1, h2⟩ := hr
    clear hn hi
    go_enter Try.func17, Try.ntmps17
    go_wp2_with fail
    refine (ris_1 v _).mono ?_
    rintro e w1 ⟨rfl, hb1⟩
    rw [HI.out]
    go_wp2_with fail
    refine (rmany_1 _).mono ?_
    rintro e w2 ⟨rfl, hb2⟩
    rw [show manyK 1 = 2 from rfl]
    go_wp2
    go_ret
    exact ⟨ret_int (by rw [HN.out]), bt hb1 hb2⟩
set_option maxRecDepth 100000 in
set_option maxHeartbeats 1000000 in
theorem rnot_2 (v : Int) (w : World) : Calls Try.prog 17 #[.int .i64 2, .int .i64 v] w fun e w' => e = .returned (.int .i64 (notK 2 v)) ∧ Below w.heap.size w w' := by
  have hb0 := Below.refl w.heap.size w
  have hn : notK 2 v = 0 := by simp [notK, bitsK]
  rw [hn]
  clear hn
  go_enter Try.func17, Try.ntmps17
  go_wp2
  go_ret
  exact ⟨rfl, hb0⟩
set_option maxRecDepth 100000 in
set_option maxHeartbeats 1000000 in
theorem rnot_3 (v : Int) (w : World) : Calls Try.prog 17 #[.int .i64 3, .int .i64 v] w fun e w' => e = .returned (.int .i64 (notK 3 v)) ∧ Below w.heap.size w w' := by
  have hb0 := Below.refl w.heap.size w
  have hn : notK 3 v = 0 := by simp [notK, bitsK]
  rw [hn]
  clear hn
  go_enter Try.func17, Try.ntmps17
  go_wp2
  go_ret
  exact ⟨rfl, hb0⟩
set_option maxRecDepth 100000 in
set_option maxHeartbeats 1000000 in
theorem rnot_4 (v : Int) (w : World) : Calls Try.prog 17 #[.int .i64 4, .int .i64 v] w fun e w' => e = .returned (.int .i64 (notK 4 v)) ∧ Below w.heap.size w w' := by
  have hb0 := Below.refl w.heap.size w
  have hn : notK 4 v = 0 := by simp [notK, bitsK]
  rw [hn]
  clear hn
  go_enter Try.func17, Try.ntmps17
  go_wp2
  go_ret
  exact ⟨rfl, hb0⟩
set_option maxRecDepth 100000 in
set_option maxHeartbeats 1000000 in
theorem rnot_5 (v : Int) (w : World) : Calls Try.prog 17 #[.int .i64 5, .int .i64 v] w fun e w' => e = .returned (.int .i64 (notK 5 v)) ∧ Below w.heap.size w w' := by
  have hb0 := Below.refl w.heap.size w
  have hn : notK 5 v = 0 := by simp [notK, bitsK]
  rw [hn]
  clear hn
  go_enter Try.func17, Try.ntmps17
  go_wp2
  go_ret
  exact ⟨rfl, hb0⟩
set_option maxRecDepth 100000 in
set_option maxHeartbeats 1000000 in
theorem rnot_6 (v : Int) (w : World) : Calls Try.prog 17 #[.int .i64 6, .int .i64 v] w fun e w' => e = .returned (.int .i64 (notK 6 v)) ∧ Below w.heap.size w w' := by
  have hb0 := Below.refl w.heap.size w
  cases hi : isK 6 v with
  | false =>
    have hn : notK 6 v = 0 := by simp [notK, hi]
    have HI := Lib.hid hi
    rw [hn]
    clear hn hi
    go_enter Try.func17, Try.ntmps17
    go_wp2_with fail
    refine (ris_6 v _).mono ?_
    rintro e w1 ⟨rfl, hb1⟩
    rw [HI.out]
    go_wp2
    go_ret
    exact ⟨rfl, hb1⟩
  | true =>
    have hr := hi
    rw [isK_range] at hr
    simp [leastK, manyK] at hr
    have hn : notK 6 v = 65535 - v := by simp [notK, hi, bitsK, manyK]
    have HI := Lib.hid hi
    have HN := Lib.hid hn
    obtain ⟨h1, h2⟩ := hr
    clear hn hi
    go_enter Try.func17, Try.ntmps17
    go_wp2_with fail
    refine (ris_6 v _).mono ?_
    rintro e w1 ⟨rfl, hb1⟩
    rw [HI.out]
    go_wp2_with fail
    refine (rmany_6 _).mono ?_
    rintro e w2 ⟨rfl, hb2⟩
    rw [show manyK 6 = 65536 from rfl]
    go_wp2
    go_ret
    exact ⟨ret_int (by rw [HN.out]), bt hb1 hb2⟩
set_option maxRecDepth 100000 in
set_option maxHeartbeats 1000000 in
theorem rnot_7 (v : Int) (w : World) : Calls Try.prog 17 #[.int .i64 7, .int .i64 v] w fun e w' => e = .returned (.int .i64 (notK 7 v)) ∧ Below w.heap.size w w' := by
  have hb0 := Below.refl w.heap.size w
  cases hi : isK 7 v with
  | false =>
    have hn : notK 7 v = 0 := by simp [notK, hi]
    have HI := Lib.hid hi
    rw [hn]
    clear hn hi
    go_enter Try.func17, Try.ntmps17
    go_wp2_with fail
    refine (ris_7 v _).mono ?_
    rintro e w1 ⟨rfl, hb1⟩
    rw [HI.out]
    go_wp2
    go_ret
    exact ⟨rfl, hb1⟩
  | true =>
    have hr := hi
    rw [isK_range] at hr
    simp [leastK, manyK] at hr
    have hn : notK 7 v = 4294967295 - v := by simp [notK, hi, bitsK, manyK]
    have HI := Lib.hid hi
    have HN := Lib.hid hn
    obtain ⟨h1, h2⟩ := hr
    clear hn hi
    go_enter Try.func17, Try.ntmps17
    go_wp2_with fail
    refine (ris_7 v _).mono ?_
    rintro e w1 ⟨rfl, hb1⟩
    rw [HI.out]
    go_wp2_with fail
    refine (rmany_7 _).mono ?_
    rintro e w2 ⟨rfl, hb2⟩
    rw [show manyK 7 = 4294967296 from rfl]
    go_wp2
    go_ret
    exact ⟨ret_int (by rw [HN.out]), bt hb1 hb2⟩
set_option maxRecDepth 100000 in
set_option maxHeartbeats 1000000 in
theorem rnot_out (k : Int) (hk : k < 1 ∨ 7 < k) (v : Int) (w : World) : Calls Try.prog 17 #[.int .i64 k, .int .i64 v] w fun e w' => e = .returned (.int .i64 (notK 0 v)) ∧ Below w.heap.size w w' := by
  have hb0 := Below.refl w.heap.size w
  have hn : notK 0 v = 0 := by simp [notK, bitsK]
  rw [hn]
  clear hn
  rcases hk with hk | hk
  · have h1 : (k != 1) = true := by rw [bne_iff_ne]; omega
    go_enter Try.func17, Try.ntmps17
    go_wp2
    go_ret
    exact ⟨rfl, hb0⟩
  · have h1 : (k != 1) = true := by rw [bne_iff_ne]; omega
    have HK := Lib.hid (show k < 1 ∨ 7 < k from .inr hk)
    go_enter Try.func17, Try.ntmps17
    go_wp2_with fail
    refine (ris_out k HK.out v _).mono ?_
    rintro e w1 ⟨rfl, hb1⟩
    rw [show isK 0 v = false by simp [isK]]
    go_wp2
    go_ret
    exact ⟨rfl, hb1⟩
theorem rnot_any (k : Int) (v : Int) (w : World) : Calls Try.prog 17 #[.int .i64 k, .int .i64 v] w fun e w' => e = .returned (.int .i64 (notK (kN k) v)) ∧ Below w.heap.size w w' := by
  rcases kN_cases k with rfl | rfl | rfl | rfl | rfl | rfl | rfl | ⟨hk, h0⟩
  · exact rnot_1 v w
  · exact rnot_2 v w
  · exact rnot_3 v w
  · exact rnot_4 v w
  · exact rnot_5 v w
  · exact rnot_6 v w
  · exact rnot_7 v w
  · rw [h0]; exact rnot_out k hk v w
end Go.Proofs.Ytclbmgnpgjhlhaa
