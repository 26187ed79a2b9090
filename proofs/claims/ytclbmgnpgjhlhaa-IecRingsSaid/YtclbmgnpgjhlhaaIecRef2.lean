/- The document's Is, Wrap, May, Not (made by wip/mk_iecref.py). -/
import Derived.Test.YtclbmgnpgjhlhaaIecRef
namespace Go.Proofs.Ytclbmgnpgjhlhaa
open Go.RowKit
set_option maxRecDepth 100000 in
set_option maxHeartbeats 1000000 in
theorem ris_1 (v : Int) (w : World) : Calls Try.prog 34 #[.int .i64 1, .int .i64 v] w fun e w' => e = .returned (.bool (isK 1 v)) ∧ Below w.heap.size w w' := by
  have hr := isK_range 1 v
  simp [leastK, manyK] at hr
  have HR := Lib.hid hr
  clear hr
  have hb0 := Below.refl w.heap.size w
  by_cases hv : 0 ≤ v
  · go_enter Try.func34, Try.ntmps34
    go_wp2_with fail
    refine (rsize_1 _).mono ?_
    rintro e w1 ⟨rfl, hc1⟩
    have hb1 := bt hb0 hc1
    rw [show sizeK 1 = 1 from rfl]
    go_wp2_with fail
    refine (rleast_1 _).mono ?_
    rintro e w2 ⟨rfl, hc2⟩
    have hb2 := bt hb1 hc2
    rw [show leastK 1 = 0 from rfl]
    go_wp2_with fail
    refine (rleast_1 _).mono ?_
    rintro e w3 ⟨rfl, hc3⟩
    have hb3 := bt hb2 hc3
    rw [show leastK 1 = 0 from rfl]
    go_wp2_with fail
    refine (rmany_1 _).mono ?_
    rintro e w4 ⟨rfl, hc4⟩
    have hb4 := bt hb3 hc4
    rw [show manyK 1 = 2 from rfl]
    go_wp2
    go_ret
    exact ⟨ret_bool (by rw [HR.out]; simp; omega), hb4⟩
  · go_enter Try.func34, Try.ntmps34
    go_wp2_with fail
    refine (rsize_1 _).mono ?_
    rintro e w1 ⟨rfl, hc1⟩
    have hb1 := bt hb0 hc1
    rw [show sizeK 1 = 1 from rfl]
    go_wp2_with fail
    refine (rleast_1 _).mono ?_
    rintro e w2 ⟨rfl, hc2⟩
    have hb2 := bt hb1 hc2
    rw [show leastK 1 = 0 from rfl]
    go_wp2
    go_ret
    exact ⟨ret_bool (by rw [HR.out]; simp; omega), hb2⟩
set_option maxRecDepth 100000 in
set_option maxHeartbeats 1000000 in
theorem ris_2 (v : Int) (w : World) : Calls Try.prog 34 #[.int .i64 2, .int .i64 v] w fun e w' => e = .returned (.bool (isK 2 v)) ∧ Below w.heap.size w w' := by
  have hr := isK_range 2 v
  simp [leastK, manyK] at hr
  have HR := Lib.hid hr
  clear hr
  have hb0 := Below.refl w.heap.size w
  by_cases hv : -128 ≤ v
  · go_enter Try.func34, Try.ntmps34
    go_wp2_with fail
    refine (rsize_2 _).mono ?_
    rintro e w1 ⟨rfl, hc1⟩
    have hb1 := bt hb0 hc1
    rw [show sizeK 2 = 1 from rfl]
    go_wp2_with fail
    refine (rleast_2 _).mono ?_
    rintro e w2 ⟨rfl, hc2⟩
    have hb2 := bt hb1 hc2
    rw [show leastK 2 = -128 from rfl]
    go_wp2_with fail
    refine (rleast_2 _).mono ?_
    rintro e w3 ⟨rfl, hc3⟩
    have hb3 := bt hb2 hc3
    rw [show leastK 2 = -128 from rfl]
    go_wp2_with fail
    refine (rmany_2 _).mono ?_
    rintro e w4 ⟨rfl, hc4⟩
    have hb4 := bt hb3 hc4
    rw [show manyK 2 = 256 from rfl]
    go_wp2
    go_ret
    exact ⟨ret_bool (by rw [HR.out]; simp; omega), hb4⟩
  · go_enter Try.func34, Try.ntmps34
    go_wp2_with fail
    refine (rsize_2 _).mono ?_
    rintro e w1 ⟨rfl, hc1⟩
    have hb1 := bt hb0 hc1
    rw [show sizeK 2 = 1 from rfl]
    go_wp2_with fail
    refine (rleast_2 _).mono ?_
    rintro e w2 ⟨rfl, hc2⟩
    have hb2 := bt hb1 hc2
    rw [show leastK 2 = -128 from rfl]
    go_wp2
    go_ret
    exact ⟨ret_bool (by rw [HR.out]; simp; omega), hb2⟩
set_option maxRecDepth 100000 in
set_option maxHeartbeats 1000000 in
theorem ris_3 (v : Int) (w : World) : Calls Try.prog 34 #[.int .i64 3, .int .i64 v] w fun e w' => e = .returned (.bool (isK 3 v)) ∧ Below w.heap.size w w' := by
  have hr := isK_range 3 v
  simp [leastK, manyK] at hr
  have HR := Lib.hid hr
  clear hr
  have hb0 := Below.refl w.heap.size w
  by_cases hv : -32768 ≤ v
  · go_enter Try.func34, Try.ntmps34
    go_wp2_with fail
    refine (rsize_3 _).mono ?_
    rintro e w1 ⟨rfl, hc1⟩
    have hb1 := bt hb0 hc1
    rw [show sizeK 3 = 2 from rfl]
    go_wp2_with fail
    refine (rleast_3 _).mono ?_
    rintro e w2 ⟨rfl, hc2⟩
    have hb2 := bt hb1 hc2
    rw [show leastK 3 = -32768 from rfl]
    go_wp2_with fail
    refine (rleast_3 _).mono ?_
    rintro e w3 ⟨rfl, hc3⟩
    have hb3 := bt hb2 hc3
    rw [show leastK 3 = -32768 from rfl]
    go_wp2_with fail
    refine (rmany_3 _).mono ?_
    rintro e w4 ⟨rfl, hc4⟩
    have hb4 := bt hb3 hc4
    rw [show manyK 3 = 65536 from rfl]
    go_wp2
    go_ret
    exact ⟨ret_bool (by rw [HR.out]; simp; omega), hb4⟩
  · go_enter Try.func34, Try.ntmps34
    go_wp2_with fail
    refine (rsize_3 _).mono ?_
    rintro e w1 ⟨rfl, hc1⟩
    have hb1 := bt hb0 hc1
    rw [show sizeK 3 = 2 from rfl]
    go_wp2_with fail
    refine (rleast_3 _).mono ?_
    rintro e w2 ⟨rfl, hc2⟩
    have hb2 := bt hb1 hc2
    rw [show leastK 3 = -32768 from rfl]
    go_wp2
    go_ret
    exact ⟨ret_bool (by rw [HR.out]; simp; omega), hb2⟩
set_option maxRecDepth 100000 in
set_option maxHeartbeats 1000000 in
theorem ris_4 (v : Int) (w : World) : Calls Try.prog 34 #[.int .i64 4, .int .i64 v] w fun e w' => e = .returned (.bool (isK 4 v)) ∧ Below w.heap.size w w' := by
  have hr := isK_range 4 v
  simp [leastK, manyK] at hr
  have HR := Lib.hid hr
  clear hr
  have hb0 := Below.refl w.heap.size w
  by_cases hv : -2147483648 ≤ v
  · go_enter Try.func34, Try.ntmps34
    go_wp2_with fail
    refine (rsize_4 _).mono ?_
    rintro e w1 ⟨rfl, hc1⟩
    have hb1 := bt hb0 hc1
    rw [show sizeK 4 = 4 from rfl]
    go_wp2_with fail
    refine (rleast_4 _).mono ?_
    rintro e w2 ⟨rfl, hc2⟩
    have hb2 := bt hb1 hc2
    rw [show leastK 4 = -2147483648 from rfl]
    go_wp2_with fail
    refine (rleast_4 _).mono ?_
    rintro e w3 ⟨rfl, hc3⟩
    have hb3 := bt hb2 hc3
    rw [show leastK 4 = -2147483648 from rfl]
    go_wp2_with fail
    refine (rmany_4 _).mono ?_
    rintro e w4 ⟨rfl, hc4⟩
    have hb4 := bt hb3 hc4
    rw [show manyK 4 = 4294967296 from rfl]
    go_wp2
    go_ret
    exact ⟨ret_bool (by rw [HR.out]; simp; omega), hb4⟩
  · go_enter Try.func34, Try.ntmps34
    go_wp2_with fail
    refine (rsize_4 _).mono ?_
    rintro e w1 ⟨rfl, hc1⟩
    have hb1 := bt hb0 hc1
    rw [show sizeK 4 = 4 from rfl]
    go_wp2_with fail
    refine (rleast_4 _).mono ?_
    rintro e w2 ⟨rfl, hc2⟩
    have hb2 := bt hb1 hc2
    rw [show leastK 4 = -2147483648 from rfl]
    go_wp2
    go_ret
    exact ⟨ret_bool (by rw [HR.out]; simp; omega), hb2⟩
set_option maxRecDepth 100000 in
set_option maxHeartbeats 1000000 in
theorem ris_5 (v : Int) (w : World) : Calls Try.prog 34 #[.int .i64 5, .int .i64 v] w fun e w' => e = .returned (.bool (isK 5 v)) ∧ Below w.heap.size w w' := by
  have hr := isK_range 5 v
  simp [leastK, manyK] at hr
  have HR := Lib.hid hr
  clear hr
  have hb0 := Below.refl w.heap.size w
  by_cases hv : 0 ≤ v
  · go_enter Try.func34, Try.ntmps34
    go_wp2_with fail
    refine (rsize_5 _).mono ?_
    rintro e w1 ⟨rfl, hc1⟩
    have hb1 := bt hb0 hc1
    rw [show sizeK 5 = 2 from rfl]
    go_wp2_with fail
    refine (rleast_5 _).mono ?_
    rintro e w2 ⟨rfl, hc2⟩
    have hb2 := bt hb1 hc2
    rw [show leastK 5 = 0 from rfl]
    go_wp2_with fail
    refine (rleast_5 _).mono ?_
    rintro e w3 ⟨rfl, hc3⟩
    have hb3 := bt hb2 hc3
    rw [show leastK 5 = 0 from rfl]
    go_wp2_with fail
    refine (rmany_5 _).mono ?_
    rintro e w4 ⟨rfl, hc4⟩
    have hb4 := bt hb3 hc4
    rw [show manyK 5 = 65536 from rfl]
    go_wp2
    go_ret
    exact ⟨ret_bool (by rw [HR.out]; simp; omega), hb4⟩
  · go_enter Try.func34, Try.ntmps34
    go_wp2_with fail
    refine (rsize_5 _).mono ?_
    rintro e w1 ⟨rfl, hc1⟩
    have hb1 := bt hb0 hc1
    rw [show sizeK 5 = 2 from rfl]
    go_wp2_with fail
    refine (rleast_5 _).mono ?_
    rintro e w2 ⟨rfl, hc2⟩
    have hb2 := bt hb1 hc2
    rw [show leastK 5 = 0 from rfl]
    go_wp2
    go_ret
    exact ⟨ret_bool (by rw [HR.out]; simp; omega), hb2⟩
set_option maxRecDepth 100000 in
set_option maxHeartbeats 1000000 in
theorem ris_6 (v : Int) (w : World) : Calls Try.prog 34 #[.int .i64 6, .int .i64 v] w fun e w' => e = .returned (.bool (isK 6 v)) ∧ Below w.heap.size w w' := by
  have hr := isK_range 6 v
  simp [leastK, manyK] at hr
  have HR := Lib.hid hr
  clear hr
  have hb0 := Below.refl w.heap.size w
  by_cases hv : 0 ≤ v
  · go_enter Try.func34, Try.ntmps34
    go_wp2_with fail
    refine (rsize_6 _).mono ?_
    rintro e w1 ⟨rfl, hc1⟩
    have hb1 := bt hb0 hc1
    rw [show sizeK 6 = 2 from rfl]
    go_wp2_with fail
    refine (rleast_6 _).mono ?_
    rintro e w2 ⟨rfl, hc2⟩
    have hb2 := bt hb1 hc2
    rw [show leastK 6 = 0 from rfl]
    go_wp2_with fail
    refine (rleast_6 _).mono ?_
    rintro e w3 ⟨rfl, hc3⟩
    have hb3 := bt hb2 hc3
    rw [show leastK 6 = 0 from rfl]
    go_wp2_with fail
    refine (rmany_6 _).mono ?_
    rintro e w4 ⟨rfl, hc4⟩
    have hb4 := bt hb3 hc4
    rw [show manyK 6 = 65536 from rfl]
    go_wp2
    go_ret
    exact ⟨ret_bool (by rw [HR.out]; simp; omega), hb4⟩
  · go_enter Try.func34, Try.ntmps34
    go_wp2_with fail
    refine (rsize_6 _).mono ?_
    rintro e w1 ⟨rfl, hc1⟩
    have hb1 := bt hb0 hc1
    rw [show sizeK 6 = 2 from rfl]
    go_wp2_with fail
    refine (rleast_6 _).mono ?_
    rintro e w2 ⟨rfl, hc2⟩
    have hb2 := bt hb1 hc2
    rw [show leastK 6 = 0 from rfl]
    go_wp2
    go_ret
    exact ⟨ret_bool (by rw [HR.out]; simp; omega), hb2⟩
set_option maxRecDepth 100000 in
set_option maxHeartbeats 1000000 in
theorem ris_7 (v : Int) (w : World) : Calls Try.prog 34 #[.int .i64 7, .int .i64 v] w fun e w' => e = .returned (.bool (isK 7 v)) ∧ Below w.heap.size w w' := by
  have hr := isK_range 7 v
  simp [leastK, manyK] at hr
  have HR := Lib.hid hr
  clear hr
  have hb0 := Below.refl w.heap.size w
  by_cases hv : 0 ≤ v
  · go_enter Try.func34, Try.ntmps34
    go_wp2_with fail
    refine (rsize_7 _).mono ?_
    rintro e w1 ⟨rfl, hc1⟩
    have hb1 := bt hb0 hc1
    rw [show sizeK 7 = 4 from rfl]
    go_wp2_with fail
    refine (rleast_7 _).mono ?_
    rintro e w2 ⟨rfl, hc2⟩
    have hb2 := bt hb1 hc2
    rw [show leastK 7 = 0 from rfl]
    go_wp2_with fail
    refine (rleast_7 _).mono ?_
    rintro e w3 ⟨rfl, hc3⟩
    have hb3 := bt hb2 hc3
    rw [show leastK 7 = 0 from rfl]
    go_wp2_with fail
    refine (rmany_7 _).mono ?_
    rintro e w4 ⟨rfl, hc4⟩
    have hb4 := bt hb3 hc4
    rw [show manyK 7 = 4294967296 from rfl]
    go_wp2
    go_ret
    exact ⟨ret_bool (by rw [HR.out]; simp; omega), hb4⟩
  · go_enter Try.func34, Try.ntmps34
    go_wp2_with fail
    refine (rsize_7 _).mono ?_
    rintro e w1 ⟨rfl, hc1⟩
    have hb1 := bt hb0 hc1
    rw [show sizeK 7 = 4 from rfl]
    go_wp2_with fail
    refine (rleast_7 _).mono ?_
    rintro e w2 ⟨rfl, hc2⟩
    have hb2 := bt hb1 hc2
    rw [show leastK 7 = 0 from rfl]
    go_wp2
    go_ret
    exact ⟨ret_bool (by rw [HR.out]; simp; omega), hb2⟩
set_option maxRecDepth 100000 in
set_option maxHeartbeats 1000000 in
theorem ris_out (k : Int) (hk : k < 1 ∨ 7 < k) (v : Int) (w : World) : Calls Try.prog 34 #[.int .i64 k, .int .i64 v] w fun e w' => e = .returned (.bool (isK 0 v)) ∧ Below w.heap.size w w' := by
  have hb0 := Below.refl w.heap.size w
  go_enter Try.func34, Try.ntmps34
  go_wp2_with fail
  refine (rsize_out k hk _).mono ?_
  rintro e w1 ⟨rfl, hc1⟩
  have hb1 := bt hb0 hc1
  rw [show sizeK 0 = 0 from rfl]
  go_wp2
  go_ret
  exact ⟨ret_bool (by simp [isK]), hb1⟩
theorem ris_any (k : Int) (v : Int) (w : World) : Calls Try.prog 34 #[.int .i64 k, .int .i64 v] w fun e w' => e = .returned (.bool (isK (kN k) v)) ∧ Below w.heap.size w w' := by
  rcases kN_cases k with rfl | rfl | rfl | rfl | rfl | rfl | rfl | ⟨hk, h0⟩
  · exact ris_1 v w
  · exact ris_2 v w
  · exact ris_3 v w
  · exact ris_4 v w
  · exact ris_5 v w
  · exact ris_6 v w
  · exact ris_7 v w
  · rw [h0]; exact ris_out k hk v w
set_option maxRecDepth 100000 in
set_option maxHeartbeats 1000000 in
theorem rwrap_1 (v : Int) (w : World) : Calls Try.prog 13 #[.int .i64 1, .int .i64 v] w fun e w' => e = .returned (.int .i64 (wrapK 1 v)) ∧ Below w.heap.size w w' := by
  have hb0 := Below.refl w.heap.size w
  by_cases hv : v = 0
  all_goals
    go_enter Try.func13, Try.ntmps13
    go_wp2_with fail
    refine (rsize_1 _).mono ?_
    rintro e w1 ⟨rfl, hc1⟩
    have hb1 := bt hb0 hc1
    rw [show sizeK 1 = 1 from rfl]
    go_wp2
    go_ret
    exact ⟨ret_int (by simp [wrapK, hv]), hb1⟩
set_option maxRecDepth 100000 in
set_option maxHeartbeats 1000000 in
theorem rwrap_2 (v : Int) (w : World) : Calls Try.prog 13 #[.int .i64 2, .int .i64 v] w fun e w' => e = .returned (.int .i64 (wrapK 2 v)) ∧ Below w.heap.size w w' := by
  have hb0 := Below.refl w.heap.size w
  obtain ⟨m, hm⟩ : ∃ m, v.tmod 256 = m := ⟨_, rfl⟩
  have hm1 := Int.tmod_lt_of_pos v (show (0 : Int) < 256 by decide)
  have hm2 := Int.lt_tmod_of_pos v (show (0 : Int) < 256 by decide)
  have hm3 := Int.mul_tdiv_add_tmod v 256
  have hw : wrapK 2 v = if 127 < (m + 256) % 256 then (m + 256) % 256 - 256 else (m + 256) % 256 := by
    simp only [wrapK]
    rw [← hm]
    split <;> omega
  rw [hm] at hm1 hm2 hm3
  have HW := Lib.hid hw
  clear hw hm3
  by_cases hv : 127 < (m + 256) % 256
  all_goals
    go_enter Try.func13, Try.ntmps13
    go_wp2_with fail
    refine (rsize_2 _).mono ?_
    rintro e w1 ⟨rfl, hc1⟩
    have hb1 := bt hb0 hc1
    rw [show sizeK 2 = 1 from rfl]
    go_wp2_with fail
    refine (rmany_2 _).mono ?_
    rintro e w2 ⟨rfl, hc2⟩
    have hb2 := bt hb1 hc2
    rw [show manyK 2 = 256 from rfl]
    go_wp2_with fail
    refine (rleast_2 _).mono ?_
    rintro e w3 ⟨rfl, hc3⟩
    have hb3 := bt hb2 hc3
    rw [show leastK 2 = -128 from rfl]
    go_wp2_with fail
    go_wp2
    go_ret
    exact ⟨ret_int (by rw [HW.out]; split <;> omega), hb3⟩
set_option maxRecDepth 100000 in
set_option maxHeartbeats 1000000 in
theorem rwrap_3 (v : Int) (w : World) : Calls Try.prog 13 #[.int .i64 3, .int .i64 v] w fun e w' => e = .returned (.int .i64 (wrapK 3 v)) ∧ Below w.heap.size w w' := by
  have hb0 := Below.refl w.heap.size w
  obtain ⟨m, hm⟩ : ∃ m, v.tmod 65536 = m := ⟨_, rfl⟩
  have hm1 := Int.tmod_lt_of_pos v (show (0 : Int) < 65536 by decide)
  have hm2 := Int.lt_tmod_of_pos v (show (0 : Int) < 65536 by decide)
  have hm3 := Int.mul_tdiv_add_tmod v 65536
  have hw : wrapK 3 v = if 32767 < (m + 65536) % 65536 then (m + 65536) % 65536 - 65536 else (m + 65536) % 65536 := by
    simp only [wrapK]
    rw [← hm]
    split <;> omega
  rw [hm] at hm1 hm2 hm3
  have HW := Lib.hid hw
  clear hw hm3
  by_cases hv : 32767 < (m + 65536) % 65536
  all_goals
    go_enter Try.func13, Try.ntmps13
    go_wp2_with fail
    refine (rsize_3 _).mono ?_
    rintro e w1 ⟨rfl, hc1⟩
    have hb1 := bt hb0 hc1
    rw [show sizeK 3 = 2 from rfl]
    go_wp2_with fail
    refine (rmany_3 _).mono ?_
    rintro e w2 ⟨rfl, hc2⟩
    have hb2 := bt hb1 hc2
    rw [show manyK 3 = 65536 from rfl]
    go_wp2_with fail
    refine (rleast_3 _).mono ?_
    rintro e w3 ⟨rfl, hc3⟩
    have hb3 := bt hb2 hc3
    rw [show leastK 3 = -32768 from rfl]
    go_wp2_with fail
    go_wp2
    go_ret
    exact ⟨ret_int (by rw [HW.out]; split <;> omega), hb3⟩
set_option maxRecDepth 100000 in
set_option maxHeartbeats 1000000 in
theorem rwrap_4 (v : Int) (w : World) : Calls Try.prog 13 #[.int .i64 4, .int .i64 v] w fun e w' => e = .returned (.int .i64 (wrapK 4 v)) ∧ Below w.heap.size w w' := by
  have hb0 := Below.refl w.heap.size w
  obtain ⟨m, hm⟩ : ∃ m, v.tmod 4294967296 = m := ⟨_, rfl⟩
  have hm1 := Int.tmod_lt_of_pos v (show (0 : Int) < 4294967296 by decide)
  have hm2 := Int.lt_tmod_of_pos v (show (0 : Int) < 4294967296 by decide)
  have hm3 := Int.mul_tdiv_add_tmod v 4294967296
  have hw : wrapK 4 v = if 2147483647 < (m + 4294967296) % 4294967296 then (m + 4294967296) % 4294967296 - 4294967296 else (m + 4294967296) % 4294967296 := by
    simp only [wrapK]
    rw [← hm]
    split <;> omega
  rw [hm] at hm1 hm2 hm3
  have HW := Lib.hid hw
  clear hw hm3
  by_cases hv : 2147483647 < (m + 4294967296) % 4294967296
  all_goals
    go_enter Try.func13, Try.ntmps13
    go_wp2_with fail
    refine (rsize_4 _).mono ?_
    rintro e w1 ⟨rfl, hc1⟩
    have hb1 := bt hb0 hc1
    rw [show sizeK 4 = 4 from rfl]
    go_wp2_with fail
    refine (rmany_4 _).mono ?_
    rintro e w2 ⟨rfl, hc2⟩
    have hb2 := bt hb1 hc2
    rw [show manyK 4 = 4294967296 from rfl]
    go_wp2_with fail
    refine (rleast_4 _).mono ?_
    rintro e w3 ⟨rfl, hc3⟩
    have hb3 := bt hb2 hc3
    rw [show leastK 4 = -2147483648 from rfl]
    go_wp2_with fail
    go_wp2
    go_ret
    exact ⟨ret_int (by rw [HW.out]; split <;> omega), hb3⟩
set_option maxRecDepth 100000 in
set_option maxHeartbeats 1000000 in
theorem rwrap_5 (v : Int) (w : World) : Calls Try.prog 13 #[.int .i64 5, .int .i64 v] w fun e w' => e = .returned (.int .i64 (wrapK 5 v)) ∧ Below w.heap.size w w' := by
  have hb0 := Below.refl w.heap.size w
  obtain ⟨m, hm⟩ : ∃ m, v.tmod 65536 = m := ⟨_, rfl⟩
  have hm1 := Int.tmod_lt_of_pos v (show (0 : Int) < 65536 by decide)
  have hm2 := Int.lt_tmod_of_pos v (show (0 : Int) < 65536 by decide)
  have hm3 := Int.mul_tdiv_add_tmod v 65536
  have hw : wrapK 5 v = if 65535 < (m + 65536) % 65536 then (m + 65536) % 65536 - 65536 else (m + 65536) % 65536 := by
    simp only [wrapK]
    rw [← hm]
    split <;> omega
  rw [hm] at hm1 hm2 hm3
  have HW := Lib.hid hw
  clear hw hm3
  have hv : ¬ 65535 < (m + 65536) % 65536 := by omega
  all_goals
    go_enter Try.func13, Try.ntmps13
    go_wp2_with fail
    refine (rsize_5 _).mono ?_
    rintro e w1 ⟨rfl, hc1⟩
    have hb1 := bt hb0 hc1
    rw [show sizeK 5 = 2 from rfl]
    go_wp2_with fail
    refine (rmany_5 _).mono ?_
    rintro e w2 ⟨rfl, hc2⟩
    have hb2 := bt hb1 hc2
    rw [show manyK 5 = 65536 from rfl]
    go_wp2_with fail
    refine (rleast_5 _).mono ?_
    rintro e w3 ⟨rfl, hc3⟩
    have hb3 := bt hb2 hc3
    rw [show leastK 5 = 0 from rfl]
    go_wp2_with fail
    go_wp2
    go_ret
    exact ⟨ret_int (by rw [HW.out]; split <;> omega), hb3⟩
set_option maxRecDepth 100000 in
set_option maxHeartbeats 1000000 in
theorem rwrap_6 (v : Int) (w : World) : Calls Try.prog 13 #[.int .i64 6, .int .i64 v] w fun e w' => e = .returned (.int .i64 (wrapK 6 v)) ∧ Below w.heap.size w w' := by
  have hb0 := Below.refl w.heap.size w
  obtain ⟨m, hm⟩ : ∃ m, v.tmod 65536 = m := ⟨_, rfl⟩
  have hm1 := Int.tmod_lt_of_pos v (show (0 : Int) < 65536 by decide)
  have hm2 := Int.lt_tmod_of_pos v (show (0 : Int) < 65536 by decide)
  have hm3 := Int.mul_tdiv_add_tmod v 65536
  have hw : wrapK 6 v = if 65535 < (m + 65536) % 65536 then (m + 65536) % 65536 - 65536 else (m + 65536) % 65536 := by
    simp only [wrapK]
    rw [← hm]
    split <;> omega
  rw [hm] at hm1 hm2 hm3
  have HW := Lib.hid hw
  clear hw hm3
  have hv : ¬ 65535 < (m + 65536) % 65536 := by omega
  all_goals
    go_enter Try.func13, Try.ntmps13
    go_wp2_with fail
    refine (rsize_6 _).mono ?_
    rintro e w1 ⟨rfl, hc1⟩
    have hb1 := bt hb0 hc1
    rw [show sizeK 6 = 2 from rfl]
    go_wp2_with fail
    refine (rmany_6 _).mono ?_
    rintro e w2 ⟨rfl, hc2⟩
    have hb2 := bt hb1 hc2
    rw [show manyK 6 = 65536 from rfl]
    go_wp2_with fail
    refine (rleast_6 _).mono ?_
    rintro e w3 ⟨rfl, hc3⟩
    have hb3 := bt hb2 hc3
    rw [show leastK 6 = 0 from rfl]
    go_wp2_with fail
    go_wp2
    go_ret
    exact ⟨ret_int (by rw [HW.out]; split <;> omega), hb3⟩
set_option maxRecDepth 100000 in
set_option maxHeartbeats 1000000 in
theorem rwrap_7 (v : Int) (w : World) : Calls Try.prog 13 #[.int .i64 7, .int .i64 v] w fun e w' => e = .returned (.int .i64 (wrapK 7 v)) ∧ Below w.heap.size w w' := by
  have hb0 := Below.refl w.heap.size w
  obtain ⟨m, hm⟩ : ∃ m, v.tmod 4294967296 = m := ⟨_, rfl⟩
  have hm1 := Int.tmod_lt_of_pos v (show (0 : Int) < 4294967296 by decide)
  have hm2 := Int.lt_tmod_of_pos v (show (0 : Int) < 4294967296 by decide)
  have hm3 := Int.mul_tdiv_add_tmod v 4294967296
  have hw : wrapK 7 v = if 4294967295 < (m + 4294967296) % 4294967296 then (m + 4294967296) % 4294967296 - 4294967296 else (m + 4294967296) % 4294967296 := by
    simp only [wrapK]
    rw [← hm]
    split <;> omega
  rw [hm] at hm1 hm2 hm3
  have HW := Lib.hid hw
  clear hw hm3
  have hv : ¬ 4294967295 < (m + 4294967296) % 4294967296 := by omega
  all_goals
    go_enter Try.func13, Try.ntmps13
    go_wp2_with fail
    refine (rsize_7 _).mono ?_
    rintro e w1 ⟨rfl, hc1⟩
    have hb1 := bt hb0 hc1
    rw [show sizeK 7 = 4 from rfl]
    go_wp2_with fail
    refine (rmany_7 _).mono ?_
    rintro e w2 ⟨rfl, hc2⟩
    have hb2 := bt hb1 hc2
    rw [show manyK 7 = 4294967296 from rfl]
    go_wp2_with fail
    refine (rleast_7 _).mono ?_
    rintro e w3 ⟨rfl, hc3⟩
    have hb3 := bt hb2 hc3
    rw [show leastK 7 = 0 from rfl]
    go_wp2_with fail
    go_wp2
    go_ret
    exact ⟨ret_int (by rw [HW.out]; split <;> omega), hb3⟩
set_option maxRecDepth 100000 in
set_option maxHeartbeats 1000000 in
theorem rwrap_out (k : Int) (hk : k < 1 ∨ 7 < k) (v : Int) (w : World) : Calls Try.prog 13 #[.int .i64 k, .int .i64 v] w fun e w' => e = .returned (.int .i64 (wrapK 0 v)) ∧ Below w.heap.size w w' := by
  have hb0 := Below.refl w.heap.size w
  go_enter Try.func13, Try.ntmps13
  go_wp2_with fail
  refine (rsize_out k hk _).mono ?_
  rintro e w1 ⟨rfl, hc1⟩
  have hb1 := bt hb0 hc1
  rw [show sizeK 0 = 0 from rfl]
  go_wp2
  go_ret
  exact ⟨rfl, hb1⟩
theorem rwrap_any (k : Int) (v : Int) (w : World) : Calls Try.prog 13 #[.int .i64 k, .int .i64 v] w fun e w' => e = .returned (.int .i64 (wrapK (kN k) v)) ∧ Below w.heap.size w w' := by
  rcases kN_cases k with rfl | rfl | rfl | rfl | rfl | rfl | rfl | ⟨hk, h0⟩
  · exact rwrap_1 v w
  · exact rwrap_2 v w
  · exact rwrap_3 v w
  · exact rwrap_4 v w
  · exact rwrap_5 v w
  · exact rwrap_6 v w
  · exact rwrap_7 v w
  · rw [h0]; exact rwrap_out k hk v w
end Go.Proofs.Ytclbmgnpgjhlhaa
