/- Not of the program (made by wip/mk_iec.py). -/
import Derived.Test.YtclbmgnpgjhlhaaIecProg2
namespace Go.Proofs.Ytclbmgnpgjhlhaa
open Go.RowKit
theorem not_bits (v : Int) (h : 0 ≤ v ∧ v ≤ 4294967295) : bits .xor .i64 (-1) v = -1 - v := by
  show IntKind.i64.wrap ((BitVec.ofInt 64 (-1) ^^^ BitVec.ofInt 64 v).toNat : Int) = _
  have e : BitVec.ofInt 64 (-1) = BitVec.allOnes 64 := by decide
  rw [e, BitVec.allOnes_xor, BitVec.toNat_not, BitVec.toNat_ofInt, IntKind.wrap_i64]
  omega
set_option maxRecDepth 100000 in
set_option maxHeartbeats 1000000 in
theorem not_1 (v : Int) (w : World) : Calls Try.prog 16 #[.int .i64 1, .int .i64 v] w fun e w' => e = .returned (.int .i64 (notK 1 v)) ∧ Below w.heap.size w w' := by
  have hm : mayK 13 1 = true := by decide
  cases hi : isK 1 v with
  | false =>
    have hn : notK 1 v = 0 := by simp [notK, hi]
    have HI := Lib.hid hi
    rw [hn]
    clear hn hi
    go_enter Try.func16, Try.ntmps16
    go_wp2_with fail
    refine (may_1 13 _).mono ?_
    rintro e w1 ⟨rfl, hb1⟩
    rw [hm]
    clear hm
    go_wp2_with fail
    refine (is_1 v _).mono ?_
    rintro e w2 ⟨rfl, hb2⟩
    rw [HI.out]
    go_wp2
    go_ret
    exact ⟨rfl, bt hb1 hb2⟩
  | true =>
    have hr := hi
    rw [isK_range] at hr
    simp [leastK, manyK] at hr
    have hn : notK 1 v = 1 - v := by simp [notK, hi, bitsK, manyK]
    have HI := Lib.hid hi
    have HN := Lib.hid hn
    obtain ⟨h1, h2⟩ := hr
    clear hn hi
    go_enter Try.func16, Try.ntmps16
    go_wp2_with fail
    refine (may_1 13 _).mono ?_
    rintro e w1 ⟨rfl, hb1⟩
    rw [hm]
    clear hm
    go_wp2_with fail
    refine (is_1 v _).mono ?_
    rintro e w2 ⟨rfl, hb2⟩
    rw [HI.out]
    go_wp2
    go_ret
    exact ⟨ret_int (by rw [HN.out]), bt hb1 hb2⟩
set_option maxRecDepth 100000 in
set_option maxHeartbeats 1000000 in
theorem not_2 (v : Int) (w : World) : Calls Try.prog 16 #[.int .i64 2, .int .i64 v] w fun e w' => e = .returned (.int .i64 (notK 2 v)) ∧ Below w.heap.size w w' := by
  have hm : mayK 13 2 = false := by decide
  have hn : notK 2 v = 0 := by simp [notK, bitsK]
  rw [hn]
  clear hn
  go_enter Try.func16, Try.ntmps16
  go_wp2_with fail
  refine (may_2 13 _).mono ?_
  rintro e w1 ⟨rfl, hb1⟩
  rw [hm]
  clear hm
  go_wp2
  go_ret
  exact ⟨rfl, hb1⟩
set_option maxRecDepth 100000 in
set_option maxHeartbeats 1000000 in
theorem not_3 (v : Int) (w : World) : Calls Try.prog 16 #[.int .i64 3, .int .i64 v] w fun e w' => e = .returned (.int .i64 (notK 3 v)) ∧ Below w.heap.size w w' := by
  have hm : mayK 13 3 = false := by decide
  have hn : notK 3 v = 0 := by simp [notK, bitsK]
  rw [hn]
  clear hn
  go_enter Try.func16, Try.ntmps16
  go_wp2_with fail
  refine (may_3 13 _).mono ?_
  rintro e w1 ⟨rfl, hb1⟩
  rw [hm]
  clear hm
  go_wp2
  go_ret
  exact ⟨rfl, hb1⟩
set_option maxRecDepth 100000 in
set_option maxHeartbeats 1000000 in
theorem not_4 (v : Int) (w : World) : Calls Try.prog 16 #[.int .i64 4, .int .i64 v] w fun e w' => e = .returned (.int .i64 (notK 4 v)) ∧ Below w.heap.size w w' := by
  have hm : mayK 13 4 = false := by decide
  have hn : notK 4 v = 0 := by simp [notK, bitsK]
  rw [hn]
  clear hn
  go_enter Try.func16, Try.ntmps16
  go_wp2_with fail
  refine (may_4 13 _).mono ?_
  rintro e w1 ⟨rfl, hb1⟩
  rw [hm]
  clear hm
  go_wp2
  go_ret
  exact ⟨rfl, hb1⟩
set_option maxRecDepth 100000 in
set_option maxHeartbeats 1000000 in
theorem not_5 (v : Int) (w : World) : Calls Try.prog 16 #[.int .i64 5, .int .i64 v] w fun e w' => e = .returned (.int .i64 (notK 5 v)) ∧ Below w.heap.size w w' := by
  have hm : mayK 13 5 = false := by decide
  have hn : notK 5 v = 0 := by simp [notK, bitsK]
  rw [hn]
  clear hn
  go_enter Try.func16, Try.ntmps16
  go_wp2_with fail
  refine (may_5 13 _).mono ?_
  rintro e w1 ⟨rfl, hb1⟩
  rw [hm]
  clear hm
  go_wp2
  go_ret
  exact ⟨rfl, hb1⟩
set_option maxRecDepth 100000 in
set_option maxHeartbeats 1000000 in
theorem not_6 (v : Int) (w : World) : Calls Try.prog 16 #[.int .i64 6, .int .i64 v] w fun e w' => e = .returned (.int .i64 (notK 6 v)) ∧ Below w.heap.size w w' := by
  have hm : mayK 13 6 = true := by decide
  cases hi : isK 6 v with
  | false =>
    have hn : notK 6 v = 0 := by simp [notK, hi]
    have HI := Lib.hid hi
    rw [hn]
    clear hn hi
    go_enter Try.func16, Try.ntmps16
    go_wp2_with fail
    refine (may_6 13 _).mono ?_
    rintro e w1 ⟨rfl, hb1⟩
    rw [hm]
    clear hm
    go_wp2_with fail
    refine (is_6 v _).mono ?_
    rintro e w2 ⟨rfl, hb2⟩
    rw [HI.out]
    go_wp2
    go_ret
    exact ⟨rfl, bt hb1 hb2⟩
  | true =>
    have hr := hi
    rw [isK_range] at hr
    simp [leastK, manyK] at hr
    have hn : notK 6 v = 65535 - v := by simp [notK, hi, bitsK, manyK]
    have HI := Lib.hid hi
    have HN := Lib.hid hn
    obtain ⟨h1, h2⟩ := hr
    clear hn hi
    go_enter Try.func16, Try.ntmps16
    go_wp2_with fail
    refine (may_6 13 _).mono ?_
    rintro e w1 ⟨rfl, hb1⟩
    rw [hm]
    clear hm
    go_wp2_with fail
    refine (is_6 v _).mono ?_
    rintro e w2 ⟨rfl, hb2⟩
    rw [HI.out]
    go_wp2_with fail
    refine (wrap_6 _ _).mono ?_
    rintro e w3 ⟨rfl, hb3⟩
    go_wp2
    go_ret
    exact ⟨ret_int (by rw [HN.out, not_bits v ⟨h1, by omega⟩]; simp only [wrapK]; omega), bt (bt hb1 hb2) hb3⟩
set_option maxRecDepth 100000 in
set_option maxHeartbeats 1000000 in
theorem not_7 (v : Int) (w : World) : Calls Try.prog 16 #[.int .i64 7, .int .i64 v] w fun e w' => e = .returned (.int .i64 (notK 7 v)) ∧ Below w.heap.size w w' := by
  have hm : mayK 13 7 = true := by decide
  cases hi : isK 7 v with
  | false =>
    have hn : notK 7 v = 0 := by simp [notK, hi]
    have HI := Lib.hid hi
    rw [hn]
    clear hn hi
    go_enter Try.func16, Try.ntmps16
    go_wp2_with fail
    refine (may_7 13 _).mono ?_
    rintro e w1 ⟨rfl, hb1⟩
    rw [hm]
    clear hm
    go_wp2_with fail
    refine (is_7 v _).mono ?_
    rintro e w2 ⟨rfl, hb2⟩
    rw [HI.out]
    go_wp2
    go_ret
    exact ⟨rfl, bt hb1 hb2⟩
  | true =>
    have hr := hi
    rw [isK_range] at hr
    simp [leastK, manyK] at hr
    have hn : notK 7 v = 4294967295 - v := by simp [notK, hi, bitsK, manyK]
    have HI := Lib.hid hi
    have HN := Lib.hid hn
    obtain ⟨h1, h2⟩ := hr
    clear hn hi
    go_enter Try.func16, Try.ntmps16
    go_wp2_with fail
    refine (may_7 13 _).mono ?_
    rintro e w1 ⟨rfl, hb1⟩
    rw [hm]
    clear hm
    go_wp2_with fail
    refine (is_7 v _).mono ?_
    rintro e w2 ⟨rfl, hb2⟩
    rw [HI.out]
    go_wp2_with fail
    refine (wrap_7 _ _).mono ?_
    rintro e w3 ⟨rfl, hb3⟩
    go_wp2
    go_ret
    exact ⟨ret_int (by rw [HN.out, not_bits v ⟨h1, by omega⟩]; simp only [wrapK]; omega), bt (bt hb1 hb2) hb3⟩
set_option maxRecDepth 100000 in
set_option maxHeartbeats 1000000 in
theorem not_out (k : Int) (hk : k < 1 ∨ 7 < k) (v : Int) (w : World) : Calls Try.prog 16 #[.int .i64 k, .int .i64 v] w fun e w' => e = .returned (.int .i64 (notK 0 v)) ∧ Below w.heap.size w w' := by
  have hm : mayK 13 0 = false := by decide
  have hn : notK 0 v = 0 := by simp [notK, bitsK]
  rw [hn]
  clear hn
  go_enter Try.func16, Try.ntmps16
  go_wp2_with fail
  refine (may_out k hk 13 _).mono ?_
  rintro e w1 ⟨rfl, hb1⟩
  rw [hm]
  clear hm
  go_wp2
  go_ret
  exact ⟨rfl, hb1⟩
theorem not_any (k : Int) (v : Int) (w : World) : Calls Try.prog 16 #[.int .i64 k, .int .i64 v] w fun e w' => e = .returned (.int .i64 (notK (kN k) v)) ∧ Below w.heap.size w w' := by
  rcases kN_cases k with rfl | rfl | rfl | rfl | rfl | rfl | rfl | ⟨hk, h0⟩
  · exact not_1 v w
  · exact not_2 v w
  · exact not_3 v w
  · exact not_4 v w
  · exact not_5 v w
  · exact not_6 v w
  · exact not_7 v w
  · rw [h0]; exact not_out k hk v w
end Go.Proofs.Ytclbmgnpgjhlhaa
