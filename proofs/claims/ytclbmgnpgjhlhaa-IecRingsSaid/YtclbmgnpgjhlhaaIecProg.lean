/- The program's kinds, walked kind by kind (made by wip/mk_iec.py). -/
import Derived.Test.YtclbmgnpgjhlhaaIecSpec
import Derived.Below
namespace Go.Proofs.Ytclbmgnpgjhlhaa
open Go.RowKit
def kindCells : Array Value := #[.string ⟨#[]⟩, .int .i64 0, .bool false, .bool false, .string ⟨#[66, 79, 79, 76]⟩, .int .i64 1, .bool false, .bool true, .string ⟨#[83, 73, 78, 84]⟩, .int .i64 1, .bool true, .bool false, .string ⟨#[73, 78, 84]⟩, .int .i64 2, .bool true, .bool false, .string ⟨#[68, 73, 78, 84]⟩, .int .i64 4, .bool true, .bool false, .string ⟨#[85, 73, 78, 84]⟩, .int .i64 2, .bool false, .bool false, .string ⟨#[87, 79, 82, 68]⟩, .int .i64 2, .bool false, .bool true, .string ⟨#[68, 87, 79, 82, 68]⟩, .int .i64 4, .bool false, .bool true]
set_option maxRecDepth 100000 in
theorem kinds_any (w : World) : Calls Try.prog 54 #[] w fun e w' => e = .returned (.slice (some ⟨w.heap.size, 0, none⟩) 8 8) ∧ w' = w.alloc (.cells #[.string ⟨#[]⟩, .int .i64 0, .bool false, .bool false, .string ⟨#[66, 79, 79, 76]⟩, .int .i64 1, .bool false, .bool true, .string ⟨#[83, 73, 78, 84]⟩, .int .i64 1, .bool true, .bool false, .string ⟨#[73, 78, 84]⟩, .int .i64 2, .bool true, .bool false, .string ⟨#[68, 73, 78, 84]⟩, .int .i64 4, .bool true, .bool false, .string ⟨#[85, 73, 78, 84]⟩, .int .i64 2, .bool false, .bool false, .string ⟨#[87, 79, 82, 68]⟩, .int .i64 2, .bool false, .bool true, .string ⟨#[68, 87, 79, 82, 68]⟩, .int .i64 4, .bool false, .bool true] 77) := by
  go_enter Try.func54, Try.ntmps54
  go_wp2
  go_ret
  exact ⟨rfl, rfl⟩
set_option maxRecDepth 100000 in
set_option maxHeartbeats 1000000 in
theorem of_1 (w : World) : Calls Try.prog 51 #[.int .i64 1] w fun e w' => e = .returned (.tuple #[.agg #[.string ⟨#[66, 79, 79, 76]⟩, .int .i64 1, .bool false, .bool true], .bool true]) ∧ Below w.heap.size w w' := by
  go_enter Try.func51, Try.ntmps51
  go_wp2_with (go_at_call 54; refine (kinds_any _).mono ?_; rintro e w' ⟨rfl, rfl⟩)
  refine bodyPost_ret (v := .tuple #[.agg #[.string ⟨#[66, 79, 79, 76]⟩, .int .i64 1, .bool false, .bool true], .bool true]) (by simp [results, Try.results51, go_sem]) rfl ⟨rfl, ?_⟩
  exact ((Below.refl _ _).alloc (Nat.le_refl _) _).alloc (by simp) _
set_option maxRecDepth 100000 in
set_option maxHeartbeats 1000000 in
theorem of_2 (w : World) : Calls Try.prog 51 #[.int .i64 2] w fun e w' => e = .returned (.tuple #[.agg #[.string ⟨#[83, 73, 78, 84]⟩, .int .i64 1, .bool true, .bool false], .bool true]) ∧ Below w.heap.size w w' := by
  go_enter Try.func51, Try.ntmps51
  go_wp2_with (go_at_call 54; refine (kinds_any _).mono ?_; rintro e w' ⟨rfl, rfl⟩)
  refine bodyPost_ret (v := .tuple #[.agg #[.string ⟨#[83, 73, 78, 84]⟩, .int .i64 1, .bool true, .bool false], .bool true]) (by simp [results, Try.results51, go_sem]) rfl ⟨rfl, ?_⟩
  exact ((Below.refl _ _).alloc (Nat.le_refl _) _).alloc (by simp) _
set_option maxRecDepth 100000 in
set_option maxHeartbeats 1000000 in
theorem of_3 (w : World) : Calls Try.prog 51 #[.int .i64 3] w fun e w' => e = .returned (.tuple #[.agg #[.string ⟨#[73, 78, 84]⟩, .int .i64 2, .bool true, .bool false], .bool true]) ∧ Below w.heap.size w w' := by
  go_enter Try.func51, Try.ntmps51
  go_wp2_with (go_at_call 54; refine (kinds_any _).mono ?_; rintro e w' ⟨rfl, rfl⟩)
  refine bodyPost_ret (v := .tuple #[.agg #[.string ⟨#[73, 78, 84]⟩, .int .i64 2, .bool true, .bool false], .bool true]) (by simp [results, Try.results51, go_sem]) rfl ⟨rfl, ?_⟩
  exact ((Below.refl _ _).alloc (Nat.le_refl _) _).alloc (by simp) _
set_option maxRecDepth 100000 in
set_option maxHeartbeats 1000000 in
theorem of_4 (w : World) : Calls Try.prog 51 #[.int .i64 4] w fun e w' => e = .returned (.tuple #[.agg #[.string ⟨#[68, 73, 78, 84]⟩, .int .i64 4, .bool true, .bool false], .bool true]) ∧ Below w.heap.size w w' := by
  go_enter Try.func51, Try.ntmps51
  go_wp2_with (go_at_call 54; refine (kinds_any _).mono ?_; rintro e w' ⟨rfl, rfl⟩)
  refine bodyPost_ret (v := .tuple #[.agg #[.string ⟨#[68, 73, 78, 84]⟩, .int .i64 4, .bool true, .bool false], .bool true]) (by simp [results, Try.results51, go_sem]) rfl ⟨rfl, ?_⟩
  exact ((Below.refl _ _).alloc (Nat.le_refl _) _).alloc (by simp) _
set_option maxRecDepth 100000 in
set_option maxHeartbeats 1000000 in
theorem of_5 (w : World) : Calls Try.prog 51 #[.int .i64 5] w fun e w' => e = .returned (.tuple #[.agg #[.string ⟨#[85, 73, 78, 84]⟩, .int .i64 2, .bool false, .bool false], .bool true]) ∧ Below w.heap.size w w' := by
  go_enter Try.func51, Try.ntmps51
  go_wp2_with (go_at_call 54; refine (kinds_any _).mono ?_; rintro e w' ⟨rfl, rfl⟩)
  refine bodyPost_ret (v := .tuple #[.agg #[.string ⟨#[85, 73, 78, 84]⟩, .int .i64 2, .bool false, .bool false], .bool true]) (by simp [results, Try.results51, go_sem]) rfl ⟨rfl, ?_⟩
  exact ((Below.refl _ _).alloc (Nat.le_refl _) _).alloc (by simp) _
set_option maxRecDepth 100000 in
set_option maxHeartbeats 1000000 in
theorem of_6 (w : World) : Calls Try.prog 51 #[.int .i64 6] w fun e w' => e = .returned (.tuple #[.agg #[.string ⟨#[87, 79, 82, 68]⟩, .int .i64 2, .bool false, .bool true], .bool true]) ∧ Below w.heap.size w w' := by
  go_enter Try.func51, Try.ntmps51
  go_wp2_with (go_at_call 54; refine (kinds_any _).mono ?_; rintro e w' ⟨rfl, rfl⟩)
  refine bodyPost_ret (v := .tuple #[.agg #[.string ⟨#[87, 79, 82, 68]⟩, .int .i64 2, .bool false, .bool true], .bool true]) (by simp [results, Try.results51, go_sem]) rfl ⟨rfl, ?_⟩
  exact ((Below.refl _ _).alloc (Nat.le_refl _) _).alloc (by simp) _
set_option maxRecDepth 100000 in
set_option maxHeartbeats 1000000 in
theorem of_7 (w : World) : Calls Try.prog 51 #[.int .i64 7] w fun e w' => e = .returned (.tuple #[.agg #[.string ⟨#[68, 87, 79, 82, 68]⟩, .int .i64 4, .bool false, .bool true], .bool true]) ∧ Below w.heap.size w w' := by
  go_enter Try.func51, Try.ntmps51
  go_wp2_with (go_at_call 54; refine (kinds_any _).mono ?_; rintro e w' ⟨rfl, rfl⟩)
  refine bodyPost_ret (v := .tuple #[.agg #[.string ⟨#[68, 87, 79, 82, 68]⟩, .int .i64 4, .bool false, .bool true], .bool true]) (by simp [results, Try.results51, go_sem]) rfl ⟨rfl, ?_⟩
  exact ((Below.refl _ _).alloc (Nat.le_refl _) _).alloc (by simp) _
set_option maxRecDepth 100000 in
set_option maxHeartbeats 1000000 in
theorem of_out (k : Int) (hk : k < 1 ∨ 7 < k) (w : World) : Calls Try.prog 51 #[.int .i64 k] w fun e w' => e = .returned (.tuple #[.agg #[.string ⟨#[]⟩, .int .i64 0, .bool false, .bool false], .bool false]) ∧ Below w.heap.size w w' := by
  rcases hk with hk | hk
  all_goals
    go_enter Try.func51, Try.ntmps51
    go_wp2
    refine bodyPost_ret (v := .tuple #[.agg #[.string ⟨#[]⟩, .int .i64 0, .bool false, .bool false], .bool false]) (by simp [results, Try.results51, go_sem]) rfl ⟨rfl, ?_⟩
    exact (Below.refl _ _).alloc (Nat.le_refl _) _
set_option maxRecDepth 100000 in
set_option maxHeartbeats 1000000 in
theorem size_1 (w : World) : Calls Try.prog 25 #[.int .i64 1] w fun e w' => e = .returned (.int .i64 (sizeK 1)) ∧ Below w.heap.size w w' := by
  go_enter Try.func25, Try.ntmps25
  go_wp2_with (go_at_call 51; refine (of_1 _).mono ?_; rintro e w1 ⟨rfl, hb1⟩)
  go_ret
  exact ⟨rfl, hb1.alloc hb1.size _⟩
set_option maxRecDepth 100000 in
set_option maxHeartbeats 1000000 in
theorem size_2 (w : World) : Calls Try.prog 25 #[.int .i64 2] w fun e w' => e = .returned (.int .i64 (sizeK 2)) ∧ Below w.heap.size w w' := by
  go_enter Try.func25, Try.ntmps25
  go_wp2_with (go_at_call 51; refine (of_2 _).mono ?_; rintro e w1 ⟨rfl, hb1⟩)
  go_ret
  exact ⟨rfl, hb1.alloc hb1.size _⟩
set_option maxRecDepth 100000 in
set_option maxHeartbeats 1000000 in
theorem size_3 (w : World) : Calls Try.prog 25 #[.int .i64 3] w fun e w' => e = .returned (.int .i64 (sizeK 3)) ∧ Below w.heap.size w w' := by
  go_enter Try.func25, Try.ntmps25
  go_wp2_with (go_at_call 51; refine (of_3 _).mono ?_; rintro e w1 ⟨rfl, hb1⟩)
  go_ret
  exact ⟨rfl, hb1.alloc hb1.size _⟩
set_option maxRecDepth 100000 in
set_option maxHeartbeats 1000000 in
theorem size_4 (w : World) : Calls Try.prog 25 #[.int .i64 4] w fun e w' => e = .returned (.int .i64 (sizeK 4)) ∧ Below w.heap.size w w' := by
  go_enter Try.func25, Try.ntmps25
  go_wp2_with (go_at_call 51; refine (of_4 _).mono ?_; rintro e w1 ⟨rfl, hb1⟩)
  go_ret
  exact ⟨rfl, hb1.alloc hb1.size _⟩
set_option maxRecDepth 100000 in
set_option maxHeartbeats 1000000 in
theorem size_5 (w : World) : Calls Try.prog 25 #[.int .i64 5] w fun e w' => e = .returned (.int .i64 (sizeK 5)) ∧ Below w.heap.size w w' := by
  go_enter Try.func25, Try.ntmps25
  go_wp2_with (go_at_call 51; refine (of_5 _).mono ?_; rintro e w1 ⟨rfl, hb1⟩)
  go_ret
  exact ⟨rfl, hb1.alloc hb1.size _⟩
set_option maxRecDepth 100000 in
set_option maxHeartbeats 1000000 in
theorem size_6 (w : World) : Calls Try.prog 25 #[.int .i64 6] w fun e w' => e = .returned (.int .i64 (sizeK 6)) ∧ Below w.heap.size w w' := by
  go_enter Try.func25, Try.ntmps25
  go_wp2_with (go_at_call 51; refine (of_6 _).mono ?_; rintro e w1 ⟨rfl, hb1⟩)
  go_ret
  exact ⟨rfl, hb1.alloc hb1.size _⟩
set_option maxRecDepth 100000 in
set_option maxHeartbeats 1000000 in
theorem size_7 (w : World) : Calls Try.prog 25 #[.int .i64 7] w fun e w' => e = .returned (.int .i64 (sizeK 7)) ∧ Below w.heap.size w w' := by
  go_enter Try.func25, Try.ntmps25
  go_wp2_with (go_at_call 51; refine (of_7 _).mono ?_; rintro e w1 ⟨rfl, hb1⟩)
  go_ret
  exact ⟨rfl, hb1.alloc hb1.size _⟩
set_option maxRecDepth 100000 in
set_option maxHeartbeats 1000000 in
theorem size_out (k : Int) (hk : k < 1 ∨ 7 < k) (w : World) : Calls Try.prog 25 #[.int .i64 k] w fun e w' => e = .returned (.int .i64 (sizeK 0)) ∧ Below w.heap.size w w' := by
  go_enter Try.func25, Try.ntmps25
  go_wp2_with (go_at_call 51; refine (of_out k hk _).mono ?_; rintro e w1 ⟨rfl, hb1⟩)
  go_ret
  exact ⟨rfl, hb1.alloc hb1.size _⟩
set_option maxRecDepth 100000 in
set_option maxHeartbeats 1000000 in
theorem wrap_1 (v : Int) (w : World) : Calls Try.prog 26 #[.int .i64 1, .int .i64 v] w fun e w' => e = .returned (.int .i64 (wrapK 1 v)) ∧ Below w.heap.size w w' := by
  by_cases hv : v = 0
  all_goals
    go_enter Try.func26, Try.ntmps26
    go_wp2_with (go_at_call 51; refine (of_1 _).mono ?_; rintro e w1 ⟨rfl, hb1⟩)
    go_ret
    exact ⟨ret_int (by simp [wrapK, hv]), hb1.alloc hb1.size _⟩
set_option maxRecDepth 100000 in
set_option maxHeartbeats 1000000 in
theorem wrap_2 (v : Int) (w : World) : Calls Try.prog 26 #[.int .i64 2, .int .i64 v] w fun e w' => e = .returned (.int .i64 (wrapK 2 v)) ∧ Below w.heap.size w w' := by
  go_enter Try.func26, Try.ntmps26
  go_wp2_with (go_at_call 51; refine (of_2 _).mono ?_; rintro e w1 ⟨rfl, hb1⟩)
  go_ret
  exact ⟨ret_int (by (try simp only [wrapK, wrap_i8', wrap_i16', wrap_i32', wrap_u16', wrap_u32']) <;> (try unfold wrap64) <;> (try unfold wrap32) <;> omega), hb1.alloc hb1.size _⟩
set_option maxRecDepth 100000 in
set_option maxHeartbeats 1000000 in
theorem wrap_3 (v : Int) (w : World) : Calls Try.prog 26 #[.int .i64 3, .int .i64 v] w fun e w' => e = .returned (.int .i64 (wrapK 3 v)) ∧ Below w.heap.size w w' := by
  go_enter Try.func26, Try.ntmps26
  go_wp2_with (go_at_call 51; refine (of_3 _).mono ?_; rintro e w1 ⟨rfl, hb1⟩)
  go_ret
  exact ⟨ret_int (by (try simp only [wrapK, wrap_i8', wrap_i16', wrap_i32', wrap_u16', wrap_u32']) <;> (try unfold wrap64) <;> (try unfold wrap32) <;> omega), hb1.alloc hb1.size _⟩
set_option maxRecDepth 100000 in
set_option maxHeartbeats 1000000 in
theorem wrap_4 (v : Int) (w : World) : Calls Try.prog 26 #[.int .i64 4, .int .i64 v] w fun e w' => e = .returned (.int .i64 (wrapK 4 v)) ∧ Below w.heap.size w w' := by
  go_enter Try.func26, Try.ntmps26
  go_wp2_with (go_at_call 51; refine (of_4 _).mono ?_; rintro e w1 ⟨rfl, hb1⟩)
  go_ret
  exact ⟨ret_int (by (try simp only [wrapK, wrap_i8', wrap_i16', wrap_i32', wrap_u16', wrap_u32']) <;> (try unfold wrap64) <;> (try unfold wrap32) <;> omega), hb1.alloc hb1.size _⟩
set_option maxRecDepth 100000 in
set_option maxHeartbeats 1000000 in
theorem wrap_5 (v : Int) (w : World) : Calls Try.prog 26 #[.int .i64 5, .int .i64 v] w fun e w' => e = .returned (.int .i64 (wrapK 5 v)) ∧ Below w.heap.size w w' := by
  go_enter Try.func26, Try.ntmps26
  go_wp2_with (go_at_call 51; refine (of_5 _).mono ?_; rintro e w1 ⟨rfl, hb1⟩)
  go_ret
  exact ⟨ret_int (by (try simp only [wrapK, wrap_i8', wrap_i16', wrap_i32', wrap_u16', wrap_u32']) <;> (try unfold wrap64) <;> (try unfold wrap32) <;> omega), hb1.alloc hb1.size _⟩
set_option maxRecDepth 100000 in
set_option maxHeartbeats 1000000 in
theorem wrap_6 (v : Int) (w : World) : Calls Try.prog 26 #[.int .i64 6, .int .i64 v] w fun e w' => e = .returned (.int .i64 (wrapK 6 v)) ∧ Below w.heap.size w w' := by
  go_enter Try.func26, Try.ntmps26
  go_wp2_with (go_at_call 51; refine (of_6 _).mono ?_; rintro e w1 ⟨rfl, hb1⟩)
  go_ret
  exact ⟨ret_int (by (try simp only [wrapK, wrap_i8', wrap_i16', wrap_i32', wrap_u16', wrap_u32']) <;> (try unfold wrap64) <;> (try unfold wrap32) <;> omega), hb1.alloc hb1.size _⟩
set_option maxRecDepth 100000 in
set_option maxHeartbeats 1000000 in
theorem wrap_7 (v : Int) (w : World) : Calls Try.prog 26 #[.int .i64 7, .int .i64 v] w fun e w' => e = .returned (.int .i64 (wrapK 7 v)) ∧ Below w.heap.size w w' := by
  go_enter Try.func26, Try.ntmps26
  go_wp2_with (go_at_call 51; refine (of_7 _).mono ?_; rintro e w1 ⟨rfl, hb1⟩)
  go_ret
  exact ⟨ret_int (by (try simp only [wrapK, wrap_i8', wrap_i16', wrap_i32', wrap_u16', wrap_u32']) <;> (try unfold wrap64) <;> (try unfold wrap32) <;> omega), hb1.alloc hb1.size _⟩
set_option maxRecDepth 100000 in
set_option maxHeartbeats 1000000 in
theorem wrap_out (k : Int) (hk : k < 1 ∨ 7 < k) (v : Int) (w : World) : Calls Try.prog 26 #[.int .i64 k, .int .i64 v] w fun e w' => e = .returned (.int .i64 (wrapK 0 v)) ∧ Below w.heap.size w w' := by
  go_enter Try.func26, Try.ntmps26
  go_wp2_with (go_at_call 51; refine (of_out k hk _).mono ?_; rintro e w1 ⟨rfl, hb1⟩)
  go_ret
  exact ⟨ret_int (by simp [wrapK]), hb1.alloc hb1.size _⟩
end Go.Proofs.Ytclbmgnpgjhlhaa
