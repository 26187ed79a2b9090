/- The document's kinds, walked kind by kind (made by wip/mk_iecref.py). -/
import Derived.Test.YtclbmgnpgjhlhaaIecProg2
import Derived.LoopN
namespace Go.Proofs.Ytclbmgnpgjhlhaa
open Go.RowKit
set_option maxRecDepth 100000 in
set_option maxHeartbeats 1000000 in
theorem rsize_1 (w : World) : Calls Try.prog 32 #[.int .i64 1] w fun e w' => e = .returned (.int .i64 (sizeK 1)) ∧ Below w.heap.size w w' := by
  go_enter Try.func32, Try.ntmps32
  go_wp2
  go_ret
  exact ⟨rfl, (Below.refl _ _).alloc (Nat.le_refl _) _⟩
set_option maxRecDepth 100000 in
set_option maxHeartbeats 1000000 in
theorem rsize_2 (w : World) : Calls Try.prog 32 #[.int .i64 2] w fun e w' => e = .returned (.int .i64 (sizeK 2)) ∧ Below w.heap.size w w' := by
  go_enter Try.func32, Try.ntmps32
  go_wp2
  go_ret
  exact ⟨rfl, (Below.refl _ _).alloc (Nat.le_refl _) _⟩
set_option maxRecDepth 100000 in
set_option maxHeartbeats 1000000 in
theorem rsize_3 (w : World) : Calls Try.prog 32 #[.int .i64 3] w fun e w' => e = .returned (.int .i64 (sizeK 3)) ∧ Below w.heap.size w w' := by
  go_enter Try.func32, Try.ntmps32
  go_wp2
  go_ret
  exact ⟨rfl, (Below.refl _ _).alloc (Nat.le_refl _) _⟩
set_option maxRecDepth 100000 in
set_option maxHeartbeats 1000000 in
theorem rsize_4 (w : World) : Calls Try.prog 32 #[.int .i64 4] w fun e w' => e = .returned (.int .i64 (sizeK 4)) ∧ Below w.heap.size w w' := by
  go_enter Try.func32, Try.ntmps32
  go_wp2
  go_ret
  exact ⟨rfl, (Below.refl _ _).alloc (Nat.le_refl _) _⟩
set_option maxRecDepth 100000 in
set_option maxHeartbeats 1000000 in
theorem rsize_5 (w : World) : Calls Try.prog 32 #[.int .i64 5] w fun e w' => e = .returned (.int .i64 (sizeK 5)) ∧ Below w.heap.size w w' := by
  go_enter Try.func32, Try.ntmps32
  go_wp2
  go_ret
  exact ⟨rfl, (Below.refl _ _).alloc (Nat.le_refl _) _⟩
set_option maxRecDepth 100000 in
set_option maxHeartbeats 1000000 in
theorem rsize_6 (w : World) : Calls Try.prog 32 #[.int .i64 6] w fun e w' => e = .returned (.int .i64 (sizeK 6)) ∧ Below w.heap.size w w' := by
  go_enter Try.func32, Try.ntmps32
  go_wp2
  go_ret
  exact ⟨rfl, (Below.refl _ _).alloc (Nat.le_refl _) _⟩
set_option maxRecDepth 100000 in
set_option maxHeartbeats 1000000 in
theorem rsize_7 (w : World) : Calls Try.prog 32 #[.int .i64 7] w fun e w' => e = .returned (.int .i64 (sizeK 7)) ∧ Below w.heap.size w w' := by
  go_enter Try.func32, Try.ntmps32
  go_wp2
  go_ret
  exact ⟨rfl, (Below.refl _ _).alloc (Nat.le_refl _) _⟩
set_option maxRecDepth 100000 in
set_option maxHeartbeats 1000000 in
theorem rsize_out (k : Int) (hk : k < 1 ∨ 7 < k) (w : World) : Calls Try.prog 32 #[.int .i64 k] w fun e w' => e = .returned (.int .i64 (sizeK 0)) ∧ Below w.heap.size w w' := by
  rcases (by omega : k < 0 ∨ k = 0 ∨ 7 < k) with h | rfl | h
  all_goals
    go_enter Try.func32, Try.ntmps32
    go_wp2
    go_ret
    exact ⟨rfl, (Below.refl _ _).alloc (Nat.le_refl _) _⟩
theorem rsize_any (k : Int) (w : World) : Calls Try.prog 32 #[.int .i64 k] w fun e w' => e = .returned (.int .i64 (sizeK (kN k))) ∧ Below w.heap.size w w' := by
  rcases kN_cases k with rfl | rfl | rfl | rfl | rfl | rfl | rfl | ⟨hk, h0⟩
  · exact rsize_1 w
  · exact rsize_2 w
  · exact rsize_3 w
  · exact rsize_4 w
  · exact rsize_5 w
  · exact rsize_6 w
  · exact rsize_7 w
  · rw [h0]; exact rsize_out k hk w
set_option maxRecDepth 100000 in
set_option maxHeartbeats 1000000 in
theorem rmany_1 (w : World) : Calls Try.prog 46 #[.int .i64 1] w fun e w' => e = .returned (.int .i64 (manyK 1)) ∧ Below w.heap.size w w' := by
  have hb0 := Below.refl w.heap.size w
  go_enter Try.func46, Try.ntmps46
  go_wp2
  go_ret
  exact ⟨rfl, hb0⟩
set_option maxRecDepth 100000 in
set_option maxHeartbeats 1000000 in
theorem rmany_2 (w : World) : Calls Try.prog 46 #[.int .i64 2] w fun e w' => e = .returned (.int .i64 (manyK 2)) ∧ Below w.heap.size w w' := by
  have hb0 := Below.refl w.heap.size w
  go_enter Try.func46, Try.ntmps46
  go_wp2_with fail
  refine wp_loop_rounds 2 ?_
  rw [rounds_succ]
  go_wp2_with fail
  refine (rsize_2 _).mono ?_
  rintro e w1 ⟨rfl, hc1⟩
  have hb1 := bt hb0 hc1
  rw [show sizeK 2 = 1 from rfl]
  go_wp2_with fail
  rw [rounds_succ]
  go_wp2_with fail
  refine (rsize_2 _).mono ?_
  rintro e w2 ⟨rfl, hc2⟩
  have hb2 := bt hb1 hc2
  rw [show sizeK 2 = 1 from rfl]
  go_wp2
  go_ret
  exact ⟨rfl, hb2⟩
set_option maxRecDepth 100000 in
set_option maxHeartbeats 1000000 in
theorem rmany_3 (w : World) : Calls Try.prog 46 #[.int .i64 3] w fun e w' => e = .returned (.int .i64 (manyK 3)) ∧ Below w.heap.size w w' := by
  have hb0 := Below.refl w.heap.size w
  go_enter Try.func46, Try.ntmps46
  go_wp2_with fail
  refine wp_loop_rounds 3 ?_
  rw [rounds_succ]
  go_wp2_with fail
  refine (rsize_3 _).mono ?_
  rintro e w1 ⟨rfl, hc1⟩
  have hb1 := bt hb0 hc1
  rw [show sizeK 3 = 2 from rfl]
  go_wp2_with fail
  rw [rounds_succ]
  go_wp2_with fail
  refine (rsize_3 _).mono ?_
  rintro e w2 ⟨rfl, hc2⟩
  have hb2 := bt hb1 hc2
  rw [show sizeK 3 = 2 from rfl]
  go_wp2_with fail
  rw [rounds_succ]
  go_wp2_with fail
  refine (rsize_3 _).mono ?_
  rintro e w3 ⟨rfl, hc3⟩
  have hb3 := bt hb2 hc3
  rw [show sizeK 3 = 2 from rfl]
  go_wp2
  go_ret
  exact ⟨rfl, hb3⟩
set_option maxRecDepth 100000 in
set_option maxHeartbeats 1000000 in
theorem rmany_4 (w : World) : Calls Try.prog 46 #[.int .i64 4] w fun e w' => e = .returned (.int .i64 (manyK 4)) ∧ Below w.heap.size w w' := by
  have hb0 := Below.refl w.heap.size w
  go_enter Try.func46, Try.ntmps46
  go_wp2_with fail
  refine wp_loop_rounds 5 ?_
  rw [rounds_succ]
  go_wp2_with fail
  refine (rsize_4 _).mono ?_
  rintro e w1 ⟨rfl, hc1⟩
  have hb1 := bt hb0 hc1
  rw [show sizeK 4 = 4 from rfl]
  go_wp2_with fail
  rw [rounds_succ]
  go_wp2_with fail
  refine (rsize_4 _).mono ?_
  rintro e w2 ⟨rfl, hc2⟩
  have hb2 := bt hb1 hc2
  rw [show sizeK 4 = 4 from rfl]
  go_wp2_with fail
  rw [rounds_succ]
  go_wp2_with fail
  refine (rsize_4 _).mono ?_
  rintro e w3 ⟨rfl, hc3⟩
  have hb3 := bt hb2 hc3
  rw [show sizeK 4 = 4 from rfl]
  go_wp2_with fail
  rw [rounds_succ]
  go_wp2_with fail
  refine (rsize_4 _).mono ?_
  rintro e w4 ⟨rfl, hc4⟩
  have hb4 := bt hb3 hc4
  rw [show sizeK 4 = 4 from rfl]
  go_wp2_with fail
  rw [rounds_succ]
  go_wp2_with fail
  refine (rsize_4 _).mono ?_
  rintro e w5 ⟨rfl, hc5⟩
  have hb5 := bt hb4 hc5
  rw [show sizeK 4 = 4 from rfl]
  go_wp2
  go_ret
  exact ⟨rfl, hb5⟩
set_option maxRecDepth 100000 in
set_option maxHeartbeats 1000000 in
theorem rmany_5 (w : World) : Calls Try.prog 46 #[.int .i64 5] w fun e w' => e = .returned (.int .i64 (manyK 5)) ∧ Below w.heap.size w w' := by
  have hb0 := Below.refl w.heap.size w
  go_enter Try.func46, Try.ntmps46
  go_wp2_with fail
  refine wp_loop_rounds 3 ?_
  rw [rounds_succ]
  go_wp2_with fail
  refine (rsize_5 _).mono ?_
  rintro e w1 ⟨rfl, hc1⟩
  have hb1 := bt hb0 hc1
  rw [show sizeK 5 = 2 from rfl]
  go_wp2_with fail
  rw [rounds_succ]
  go_wp2_with fail
  refine (rsize_5 _).mono ?_
  rintro e w2 ⟨rfl, hc2⟩
  have hb2 := bt hb1 hc2
  rw [show sizeK 5 = 2 from rfl]
  go_wp2_with fail
  rw [rounds_succ]
  go_wp2_with fail
  refine (rsize_5 _).mono ?_
  rintro e w3 ⟨rfl, hc3⟩
  have hb3 := bt hb2 hc3
  rw [show sizeK 5 = 2 from rfl]
  go_wp2
  go_ret
  exact ⟨rfl, hb3⟩
set_option maxRecDepth 100000 in
set_option maxHeartbeats 1000000 in
theorem rmany_6 (w : World) : Calls Try.prog 46 #[.int .i64 6] w fun e w' => e = .returned (.int .i64 (manyK 6)) ∧ Below w.heap.size w w' := by
  have hb0 := Below.refl w.heap.size w
  go_enter Try.func46, Try.ntmps46
  go_wp2_with fail
  refine wp_loop_rounds 3 ?_
  rw [rounds_succ]
  go_wp2_with fail
  refine (rsize_6 _).mono ?_
  rintro e w1 ⟨rfl, hc1⟩
  have hb1 := bt hb0 hc1
  rw [show sizeK 6 = 2 from rfl]
  go_wp2_with fail
  rw [rounds_succ]
  go_wp2_with fail
  refine (rsize_6 _).mono ?_
  rintro e w2 ⟨rfl, hc2⟩
  have hb2 := bt hb1 hc2
  rw [show sizeK 6 = 2 from rfl]
  go_wp2_with fail
  rw [rounds_succ]
  go_wp2_with fail
  refine (rsize_6 _).mono ?_
  rintro e w3 ⟨rfl, hc3⟩
  have hb3 := bt hb2 hc3
  rw [show sizeK 6 = 2 from rfl]
  go_wp2
  go_ret
  exact ⟨rfl, hb3⟩
set_option maxRecDepth 100000 in
set_option maxHeartbeats 1000000 in
theorem rmany_7 (w : World) : Calls Try.prog 46 #[.int .i64 7] w fun e w' => e = .returned (.int .i64 (manyK 7)) ∧ Below w.heap.size w w' := by
  have hb0 := Below.refl w.heap.size w
  go_enter Try.func46, Try.ntmps46
  go_wp2_with fail
  refine wp_loop_rounds 5 ?_
  rw [rounds_succ]
  go_wp2_with fail
  refine (rsize_7 _).mono ?_
  rintro e w1 ⟨rfl, hc1⟩
  have hb1 := bt hb0 hc1
  rw [show sizeK 7 = 4 from rfl]
  go_wp2_with fail
  rw [rounds_succ]
  go_wp2_with fail
  refine (rsize_7 _).mono ?_
  rintro e w2 ⟨rfl, hc2⟩
  have hb2 := bt hb1 hc2
  rw [show sizeK 7 = 4 from rfl]
  go_wp2_with fail
  rw [rounds_succ]
  go_wp2_with fail
  refine (rsize_7 _).mono ?_
  rintro e w3 ⟨rfl, hc3⟩
  have hb3 := bt hb2 hc3
  rw [show sizeK 7 = 4 from rfl]
  go_wp2_with fail
  rw [rounds_succ]
  go_wp2_with fail
  refine (rsize_7 _).mono ?_
  rintro e w4 ⟨rfl, hc4⟩
  have hb4 := bt hb3 hc4
  rw [show sizeK 7 = 4 from rfl]
  go_wp2_with fail
  rw [rounds_succ]
  go_wp2_with fail
  refine (rsize_7 _).mono ?_
  rintro e w5 ⟨rfl, hc5⟩
  have hb5 := bt hb4 hc5
  rw [show sizeK 7 = 4 from rfl]
  go_wp2
  go_ret
  exact ⟨rfl, hb5⟩
set_option maxRecDepth 100000 in
set_option maxHeartbeats 1000000 in
theorem rmany_out (k : Int) (hk : k < 1 ∨ 7 < k) (w : World) : Calls Try.prog 46 #[.int .i64 k] w fun e w' => e = .returned (.int .i64 (manyK 0)) ∧ Below w.heap.size w w' := by
  have h1 : (k == 1) = false := by rw [beq_eq_false_iff_ne]; omega
  have hb0 := Below.refl w.heap.size w
  go_enter Try.func46, Try.ntmps46
  go_wp2_with fail
  refine wp_loop_rounds 1 ?_
  rw [rounds_succ]
  go_wp2_with fail
  refine (rsize_out k hk _).mono ?_
  rintro e w1 ⟨rfl, hc1⟩
  have hb1 := bt hb0 hc1
  rw [show sizeK 0 = 0 from rfl]
  go_wp2
  go_ret
  exact ⟨rfl, hb1⟩
theorem rmany_any (k : Int) (w : World) : Calls Try.prog 46 #[.int .i64 k] w fun e w' => e = .returned (.int .i64 (manyK (kN k))) ∧ Below w.heap.size w w' := by
  rcases kN_cases k with rfl | rfl | rfl | rfl | rfl | rfl | rfl | ⟨hk, h0⟩
  · exact rmany_1 w
  · exact rmany_2 w
  · exact rmany_3 w
  · exact rmany_4 w
  · exact rmany_5 w
  · exact rmany_6 w
  · exact rmany_7 w
  · rw [h0]; exact rmany_out k hk w
set_option maxRecDepth 100000 in
set_option maxHeartbeats 1000000 in
theorem rleast_1 (w : World) : Calls Try.prog 47 #[.int .i64 1] w fun e w' => e = .returned (.int .i64 (leastK 1)) ∧ Below w.heap.size w w' := by
  go_enter Try.func47, Try.ntmps47
  go_wp2
  go_ret
  exact ⟨rfl, Below.refl _ _⟩
set_option maxRecDepth 100000 in
set_option maxHeartbeats 1000000 in
theorem rleast_2 (w : World) : Calls Try.prog 47 #[.int .i64 2] w fun e w' => e = .returned (.int .i64 (leastK 2)) ∧ Below w.heap.size w w' := by
  have hb0 := Below.refl w.heap.size w
  go_enter Try.func47, Try.ntmps47
  go_wp2_with fail
  refine (rmany_2 _).mono ?_
  rintro e w1 ⟨rfl, hc1⟩
  have hb1 := bt hb0 hc1
  rw [show manyK 2 = 256 from rfl]
  go_wp2
  go_ret
  exact ⟨ret_int (by decide), hb1⟩
set_option maxRecDepth 100000 in
set_option maxHeartbeats 1000000 in
theorem rleast_3 (w : World) : Calls Try.prog 47 #[.int .i64 3] w fun e w' => e = .returned (.int .i64 (leastK 3)) ∧ Below w.heap.size w w' := by
  have hb0 := Below.refl w.heap.size w
  go_enter Try.func47, Try.ntmps47
  go_wp2_with fail
  refine (rmany_3 _).mono ?_
  rintro e w1 ⟨rfl, hc1⟩
  have hb1 := bt hb0 hc1
  rw [show manyK 3 = 65536 from rfl]
  go_wp2
  go_ret
  exact ⟨ret_int (by decide), hb1⟩
set_option maxRecDepth 100000 in
set_option maxHeartbeats 1000000 in
theorem rleast_4 (w : World) : Calls Try.prog 47 #[.int .i64 4] w fun e w' => e = .returned (.int .i64 (leastK 4)) ∧ Below w.heap.size w w' := by
  have hb0 := Below.refl w.heap.size w
  go_enter Try.func47, Try.ntmps47
  go_wp2_with fail
  refine (rmany_4 _).mono ?_
  rintro e w1 ⟨rfl, hc1⟩
  have hb1 := bt hb0 hc1
  rw [show manyK 4 = 4294967296 from rfl]
  go_wp2
  go_ret
  exact ⟨ret_int (by decide), hb1⟩
set_option maxRecDepth 100000 in
set_option maxHeartbeats 1000000 in
theorem rleast_5 (w : World) : Calls Try.prog 47 #[.int .i64 5] w fun e w' => e = .returned (.int .i64 (leastK 5)) ∧ Below w.heap.size w w' := by
  go_enter Try.func47, Try.ntmps47
  go_wp2
  go_ret
  exact ⟨rfl, Below.refl _ _⟩
set_option maxRecDepth 100000 in
set_option maxHeartbeats 1000000 in
theorem rleast_6 (w : World) : Calls Try.prog 47 #[.int .i64 6] w fun e w' => e = .returned (.int .i64 (leastK 6)) ∧ Below w.heap.size w w' := by
  go_enter Try.func47, Try.ntmps47
  go_wp2
  go_ret
  exact ⟨rfl, Below.refl _ _⟩
set_option maxRecDepth 100000 in
set_option maxHeartbeats 1000000 in
theorem rleast_7 (w : World) : Calls Try.prog 47 #[.int .i64 7] w fun e w' => e = .returned (.int .i64 (leastK 7)) ∧ Below w.heap.size w w' := by
  go_enter Try.func47, Try.ntmps47
  go_wp2
  go_ret
  exact ⟨rfl, Below.refl _ _⟩
set_option maxRecDepth 100000 in
set_option maxHeartbeats 1000000 in
theorem rleast_out (k : Int) (hk : k < 1 ∨ 7 < k) (w : World) : Calls Try.prog 47 #[.int .i64 k] w fun e w' => e = .returned (.int .i64 (leastK 0)) ∧ Below w.heap.size w w' := by
  rcases hk with hk | hk
  all_goals
    go_enter Try.func47, Try.ntmps47
    go_wp2
    go_ret
    exact ⟨rfl, Below.refl _ _⟩
theorem rleast_any (k : Int) (w : World) : Calls Try.prog 47 #[.int .i64 k] w fun e w' => e = .returned (.int .i64 (leastK (kN k))) ∧ Below w.heap.size w w' := by
  rcases kN_cases k with rfl | rfl | rfl | rfl | rfl | rfl | rfl | ⟨hk, h0⟩
  · exact rleast_1 w
  · exact rleast_2 w
  · exact rleast_3 w
  · exact rleast_4 w
  · exact rleast_5 w
  · exact rleast_6 w
  · exact rleast_7 w
  · rw [h0]; exact rleast_out k hk w
end Go.Proofs.Ytclbmgnpgjhlhaa
