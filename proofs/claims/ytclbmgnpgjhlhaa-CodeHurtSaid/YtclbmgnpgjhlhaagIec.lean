/- Kinds: the program's and the document's, walked. -/
import Derived.Test.YtclbmgnpgjhlhaagBase
import Derived.IntWalk
import Derived.Below
import Derived.LoopN
/-! The kinds of numbers (plain). -/
section
namespace Go.Proofs.Ytclbmgnpgjhlhaa
open Go.RowKit
/-- A kind's number; 0: none. -/
def kN (k : Int) : Nat := if 1 ≤ k ∧ k ≤ 7 then k.toNat else 0
theorem kN_cases (k : Int) : k = 1 ∨ k = 2 ∨ k = 3 ∨ k = 4 ∨ k = 5 ∨ k = 6 ∨ k = 7 ∨ ((k < 1 ∨ 7 < k) ∧ kN k = 0) := by
  by_cases h : 1 ≤ k ∧ k ≤ 7
  · omega
  · have : kN k = 0 := by unfold kN; rw [if_neg h]
    omega
def sizeK : Nat → Int | 1 => 1 | 2 => 1 | 3 => 2 | 4 => 4 | 5 => 2 | 6 => 2 | 7 => 4 | _ => 0
def leastK : Nat → Int | 2 => -128 | 3 => -32768 | 4 => -2147483648 | _ => 0
def manyK : Nat → Int | 1 => 2 | 2 => 256 | 3 => 65536 | 4 => 4294967296 | 5 => 65536 | 6 => 65536 | 7 => 4294967296 | _ => 1
def wrapK : Nat → Int → Int
  | 1, v => if v = 0 then 0 else 1
  | 2, v => (v + 128) % 256 - 128
  | 3, v => (v + 32768) % 65536 - 32768
  | 4, v => (v + 2147483648) % 4294967296 - 2147483648
  | 5, v => v % 65536
  | 6, v => v % 65536
  | 7, v => v % 4294967296
  | _, _ => 0
def isK (k : Nat) (v : Int) : Bool := decide (k ≠ 0 ∧ k ≤ 7) && decide (wrapK k v = v)
def bitsK : Nat → Bool | 1 => true | 6 => true | 7 => true | _ => false
def mayK (op : Int) (k : Nat) : Bool :=
  if k = 0 then false else if 7 ≤ op ∧ op ≤ 13 then bitsK k else if 14 ≤ op ∧ op ≤ 18 then !bitsK k else decide (19 ≤ op ∧ op ≤ 24)
def notK (k : Nat) (v : Int) : Int := if bitsK k = true ∧ isK k v = true then manyK k - 1 - v else 0
theorem wrap_i8' (v : Int) : IntKind.i8.wrap v = (v + 128) % 256 - 128 := by
  show (let m := v % 256; if (true && decide (m ≥ 128)) = true then m - 256 else m) = _
  simp only [Bool.true_and, decide_eq_true_eq]
  split <;> omega
theorem wrap_i16' (v : Int) : IntKind.i16.wrap v = (v + 32768) % 65536 - 32768 := by
  show (let m := v % 65536; if (true && decide (m ≥ 32768)) = true then m - 65536 else m) = _
  simp only [Bool.true_and, decide_eq_true_eq]
  split <;> omega
theorem wrap_i32' (v : Int) : IntKind.i32.wrap v = (v + 2147483648) % 4294967296 - 2147483648 := by
  show (let m := v % 4294967296; if (true && decide (m ≥ 2147483648)) = true then m - 4294967296 else m) = _
  simp only [Bool.true_and, decide_eq_true_eq]
  split <;> omega
theorem wrap_u16' (v : Int) : IntKind.u16.wrap v = v % 65536 := by
  show (let m := v % 65536; if (false && decide (m ≥ 32768)) = true then m - 65536 else m) = _
  simp
theorem wrap_u32' (v : Int) : IntKind.u32.wrap v = v % 4294967296 := by
  show (let m := v % 4294967296; if (false && decide (m ≥ 2147483648)) = true then m - 4294967296 else m) = _
  simp
theorem isK_range (k : Nat) (v : Int) : isK k v = decide (k ≠ 0 ∧ k ≤ 7 ∧ leastK k ≤ v ∧ v ≤ leastK k + manyK k - 1) := by
  unfold isK
  rw [Bool.eq_iff_iff]
  simp only [Bool.and_eq_true, decide_eq_true_eq]
  match k with
  | 0 => simp
  | 1 => simp only [wrapK, leastK, manyK]; split <;> omega
  | 2 => simp only [wrapK, leastK, manyK]; omega
  | 3 => simp only [wrapK, leastK, manyK]; omega
  | 4 => simp only [wrapK, leastK, manyK]; omega
  | 5 => simp only [wrapK, leastK, manyK]; omega
  | 6 => simp only [wrapK, leastK, manyK]; omega
  | 7 => simp only [wrapK, leastK, manyK]; omega
  | n + 8 => simp [wrapK, leastK, manyK]
end Go.Proofs.Ytclbmgnpgjhlhaa
end
/-! The program's kinds, walked kind by kind (made by wip/mk_iec.py). -/
section
namespace Go.Proofs.Ytclbmgnpgjhlhaa
open Go.RowKit
def kindCells : Array Value := #[.string ⟨#[]⟩, .int .i64 0, .bool false, .bool false, .string ⟨#[66, 79, 79, 76]⟩, .int .i64 1, .bool false, .bool true, .string ⟨#[83, 73, 78, 84]⟩, .int .i64 1, .bool true, .bool false, .string ⟨#[73, 78, 84]⟩, .int .i64 2, .bool true, .bool false, .string ⟨#[68, 73, 78, 84]⟩, .int .i64 4, .bool true, .bool false, .string ⟨#[85, 73, 78, 84]⟩, .int .i64 2, .bool false, .bool false, .string ⟨#[87, 79, 82, 68]⟩, .int .i64 2, .bool false, .bool true, .string ⟨#[68, 87, 79, 82, 68]⟩, .int .i64 4, .bool false, .bool true]
set_option maxRecDepth 100000 in
theorem kinds_any (w : World) : Calls Try.prog 54 #[] w fun e w' => e = .returned (.slice (some ⟨w.heap.size, 0, none⟩) 8 8) ∧ w' = w.alloc (.cells #[.string ⟨#[]⟩, .int .i64 0, .bool false, .bool false, .string ⟨#[66, 79, 79, 76]⟩, .int .i64 1, .bool false, .bool true, .string ⟨#[83, 73, 78, 84]⟩, .int .i64 1, .bool true, .bool false, .string ⟨#[73, 78, 84]⟩, .int .i64 2, .bool true, .bool false, .string ⟨#[68, 73, 78, 84]⟩, .int .i64 4, .bool true, .bool false, .string ⟨#[85, 73, 78, 84]⟩, .int .i64 2, .bool false, .bool false, .string ⟨#[87, 79, 82, 68]⟩, .int .i64 2, .bool false, .bool true, .string ⟨#[68, 87, 79, 82, 68]⟩, .int .i64 4, .bool false, .bool true] 77) := by
  go_enter Try.func54, Try.ntmps54
  go_wp2
  go_ret
  exact ⟨rfl, rfl⟩
set_option maxRecDepth 100000 in
set_option maxHeartbeats 1000000 in
theorem of_1 (w : World) : Calls Try.prog 51 #[.int .i64 1] w fun e w' => e = .returned (.tuple #[.agg #[.string ⟨#[66, 79, 79, 76]⟩, .int .i64 1, .bool false, .bool true], .bool true]) ∧ Below w.heap.size w w' := by
  go_enter Try.func51, Try.ntmps51
  go_wp2_with (go_at_call 54; refine (kinds_any _).mono ?_; rintro e w' ⟨rfl, rfl⟩)
  refine bodyPost_ret (v := .tuple #[.agg #[.string ⟨#[66, 79, 79, 76]⟩, .int .i64 1, .bool false, .bool true], .bool true]) (by simp [results, Try.results51, go_sem]) rfl ⟨rfl, ?_⟩
  exact ((Below.refl _ _).alloc (Nat.le_refl _) _).alloc (by simp) _
set_option maxRecDepth 100000 in
set_option maxHeartbeats 1000000 in
theorem of_2 (w : World) : Calls Try.prog 51 #[.int .i64 2] w fun e w' => e = .returned (.tuple #[.agg #[.string ⟨#[83, 73, 78, 84]⟩, .int .i64 1, .bool true, .bool false], .bool true]) ∧ Below w.heap.size w w' := by
  go_enter Try.func51, Try.ntmps51
  go_wp2_with (go_at_call 54; refine (kinds_any _).mono ?_; rintro e w' ⟨rfl, rfl⟩)
  refine bodyPost_ret (v := .tuple #[.agg #[.string ⟨#[83, 73, 78, 84]⟩, .int .i64 1, .bool true, .bool false], .bool true]) (by simp [results, Try.results51, go_sem]) rfl ⟨rfl, ?_⟩
  exact ((Below.refl _ _).alloc (Nat.le_refl _) _).alloc (by simp) _
set_option maxRecDepth 100000 in
set_option maxHeartbeats 1000000 in
theorem of_3 (w : World) : Calls Try.prog 51 #[.int .i64 3] w fun e w' => e = .returned (.tuple #[.agg #[.string ⟨#[73, 78, 84]⟩, .int .i64 2, .bool true, .bool false], .bool true]) ∧ Below w.heap.size w w' := by
  go_enter Try.func51, Try.ntmps51
  go_wp2_with (go_at_call 54; refine (kinds_any _).mono ?_; rintro e w' ⟨rfl, rfl⟩)
  refine bodyPost_ret (v := .tuple #[.agg #[.string ⟨#[73, 78, 84]⟩, .int .i64 2, .bool true, .bool false], .bool true]) (by simp [results, Try.results51, go_sem]) rfl ⟨rfl, ?_⟩
  exact ((Below.refl _ _).alloc (Nat.le_refl _) _).alloc (by simp) _
set_option maxRecDepth 100000 in
set_option maxHeartbeats 1000000 in
theorem of_4 (w : World) : Calls Try.prog 51 #[.int .i64 4] w fun e w' => e = .returned (.tuple #[.agg #[.string ⟨#[68, 73, 78, 84]⟩, .int .i64 4, .bool true, .bool false], .bool true]) ∧ Below w.heap.size w w' := by
  go_enter Try.func51, Try.ntmps51
  go_wp2_with (go_at_call 54; refine (kinds_any _).mono ?_; rintro e w' ⟨rfl, rfl⟩)
  refine bodyPost_ret (v := .tuple #[.agg #[.string ⟨#[68, 73, 78, 84]⟩, .int .i64 4, .bool true, .bool false], .bool true]) (by simp [results, Try.results51, go_sem]) rfl ⟨rfl, ?_⟩
  exact ((Below.refl _ _).alloc (Nat.le_refl _) _).alloc (by simp) _
set_option maxRecDepth 100000 in
set_option maxHeartbeats 1000000 in
theorem of_5 (w : World) : Calls Try.prog 51 #[.int .i64 5] w fun e w' => e = .returned (.tuple #[.agg #[.string ⟨#[85, 73, 78, 84]⟩, .int .i64 2, .bool false, .bool false], .bool true]) ∧ Below w.heap.size w w' := by
  go_enter Try.func51, Try.ntmps51
  go_wp2_with (go_at_call 54; refine (kinds_any _).mono ?_; rintro e w' ⟨rfl, rfl⟩)
  refine bodyPost_ret (v := .tuple #[.agg #[.string ⟨#[85, 73, 78, 84]⟩, .int .i64 2, .bool false, .bool false], .bool true]) (by simp [results, Try.results51, go_sem]) rfl ⟨rfl, ?_⟩
  exact ((Below.refl _ _).alloc (Nat.le_refl _) _).alloc (by simp) _
set_option maxRecDepth 100000 in
set_option maxHeartbeats 1000000 in
theorem of_6 (w : World) : Calls Try.prog 51 #[.int .i64 6] w fun e w' => e = .returned (.tuple #[.agg #[.string ⟨#[87, 79, 82, 68]⟩, .int .i64 2, .bool false, .bool true], .bool true]) ∧ Below w.heap.size w w' := by
  go_enter Try.func51, Try.ntmps51
  go_wp2_with (go_at_call 54; refine (kinds_any _).mono ?_; rintro e w' ⟨rfl, rfl⟩)
  refine bodyPost_ret (v := .tuple #[.agg #[.string ⟨#[87, 79, 82, 68]⟩, .int .i64 2, .bool false, .bool true], .bool true]) (by simp [results, Try.results51, go_sem]) rfl ⟨rfl, ?_⟩
  exact ((Below.refl _ _).alloc (Nat.le_refl _) _).alloc (by simp) _
set_option maxRecDepth 100000 in
set_option maxHeartbeats 1000000 in
theorem of_7 (w : World) : Calls Try.prog 51 #[.int .i64 7] w fun e w' => e = .returned (.tuple #[.agg #[.string ⟨#[68, 87, 79, 82, 68]⟩, .int .i64 4, .bool false, .bool true], .bool true]) ∧ Below w.heap.size w w' := by
  go_enter Try.func51, Try.ntmps51
  go_wp2_with (go_at_call 54; refine (kinds_any _).mono ?_; rintro e w' ⟨rfl, rfl⟩)
  refine bodyPost_ret (v := .tuple #[.agg #[.string ⟨#[68, 87, 79, 82, 68]⟩, .int .i64 4, .bool false, .bool true], .bool true]) (by simp [results, Try.results51, go_sem]) rfl ⟨rfl, ?_⟩
  exact ((Below.refl _ _).alloc (Nat.le_refl _) _).alloc (by simp) _
set_option maxRecDepth 100000 in
set_option maxHeartbeats 1000000 in
theorem of_out (k : Int) (hk : k < 1 ∨ 7 < k) (w : World) : Calls Try.prog 51 #[.int .i64 k] w fun e w' => e = .returned (.tuple #[.agg #[.string ⟨#[]⟩, .int .i64 0, .bool false, .bool false], .bool false]) ∧ Below w.heap.size w w' := by
  rcases hk with hk | hk
  all_goals
    go_enter Try.func51, Try.ntmps51
    go_wp2
    refine bodyPost_ret (v := .tuple #[.agg #[.string ⟨#[]⟩, .int .i64 0, .bool false, .bool false], .bool false]) (by simp [results, Try.results51, go_sem]) rfl ⟨rfl, ?_⟩
    exact (Below.refl _ _).alloc (Nat.le_refl _) _
set_option maxRecDepth 100000 in
set_option maxHeartbeats 1000000 in
theorem size_1 (w : World) : Calls Try.prog 25 #[.int .i64 1] w fun e w' => e = .returned (.int .i64 (sizeK 1)) ∧ Below w.heap.size w w' := by
  go_enter Try.func25, Try.ntmps25
  go_wp2_with (go_at_call 51; refine (of_1 _).mono ?_; rintro e w1 ⟨rfl, hb1⟩)
  go_ret
  exact ⟨rfl, hb1.alloc hb1.size _⟩
set_option maxRecDepth 100000 in
set_option maxHeartbeats 1000000 in
theorem size_2 (w : World) : Calls Try.prog 25 #[.int .i64 2] w fun e w' => e = .returned (.int .i64 (sizeK 2)) ∧ Below w.heap.size w w' := by
  go_enter Try.func25, Try.ntmps25
  go_wp2_with (go_at_call 51; refine (of_2 _).mono ?_; rintro e w1 ⟨rfl, hb1⟩)
  go_ret
  exact ⟨rfl, hb1.alloc hb1.size _⟩
set_option maxRecDepth 100000 in
set_option maxHeartbeats 1000000 in
theorem size_3 (w : World) : Calls Try.prog 25 #[.int .i64 3] w fun e w' => e = .returned (.int .i64 (sizeK 3)) ∧ Below w.heap.size w w' := by
  go_enter Try.func25, Try.ntmps25
  go_wp2_with (go_at_call 51; refine (of_3 _).mono ?_; rintro e w1 ⟨rfl, hb1⟩)
  go_ret
  exact ⟨rfl, hb1.alloc hb1.size _⟩
set_option maxRecDepth 100000 in
set_option maxHeartbeats 1000000 in
theorem size_4 (w : World) : Calls Try.prog 25 #[.int .i64 4] w fun e w' => e = .returned (.int .i64 (sizeK 4)) ∧ Below w.heap.size w w' := by
  go_enter Try.func25, Try.ntmps25
  go_wp2_with (go_at_call 51; refine (of_4 _).mono ?_; rintro e w1 ⟨rfl, hb1⟩)
  go_ret
  exact ⟨rfl, hb1.alloc hb1.size _⟩
set_option maxRecDepth 100000 in
set_option maxHeartbeats 1000000 in
theorem size_5 (w : World) : Calls Try.prog 25 #[.int .i64 5] w fun e w' => e = .returned (.int .i64 (sizeK 5)) ∧ Below w.heap.size w w' := by
  go_enter Try.func25, Try.ntmps25
  go_wp2_with (go_at_call 51; refine (of_5 _).mono ?_; rintro e w1 ⟨rfl, hb1⟩)
  go_ret
  exact ⟨rfl, hb1.alloc hb1.size _⟩
set_option maxRecDepth 100000 in
set_option maxHeartbeats 1000000 in
theorem size_6 (w : World) : Calls Try.prog 25 #[.int .i64 6] w fun e w' => e = .returned (.int .i64 (sizeK 6)) ∧ Below w.heap.size w w' := by
  go_enter Try.func25, Try.ntmps25
  go_wp2_with (go_at_call 51; refine (of_6 _).mono ?_; rintro e w1 ⟨rfl, hb1⟩)
  go_ret
  exact ⟨rfl, hb1.alloc hb1.size _⟩
set_option maxRecDepth 100000 in
set_option maxHeartbeats 1000000 in
theorem size_7 (w : World) : Calls Try.prog 25 #[.int .i64 7] w fun e w' => e = .returned (.int .i64 (sizeK 7)) ∧ Below w.heap.size w w' := by
  go_enter Try.func25, Try.ntmps25
  go_wp2_with (go_at_call 51; refine (of_7 _).mono ?_; rintro e w1 ⟨rfl, hb1⟩)
  go_ret
  exact ⟨rfl, hb1.alloc hb1.size _⟩
set_option maxRecDepth 100000 in
set_option maxHeartbeats 1000000 in
theorem size_out (k : Int) (hk : k < 1 ∨ 7 < k) (w : World) : Calls Try.prog 25 #[.int .i64 k] w fun e w' => e = .returned (.int .i64 (sizeK 0)) ∧ Below w.heap.size w w' := by
  go_enter Try.func25, Try.ntmps25
  go_wp2_with (go_at_call 51; refine (of_out k hk _).mono ?_; rintro e w1 ⟨rfl, hb1⟩)
  go_ret
  exact ⟨rfl, hb1.alloc hb1.size _⟩
set_option maxRecDepth 100000 in
set_option maxHeartbeats 1000000 in
theorem wrap_1 (v : Int) (w : World) : Calls Try.prog 26 #[.int .i64 1, .int .i64 v] w fun e w' => e = .returned (.int .i64 (wrapK 1 v)) ∧ Below w.heap.size w w' := by
  by_cases hv : v = 0
  all_goals
    go_enter Try.func26, Try.ntmps26
    go_wp2_with (go_at_call 51; refine (of_1 _).mono ?_; rintro e w1 ⟨rfl, hb1⟩)
    go_ret
    exact ⟨ret_int (by simp [wrapK, hv]), hb1.alloc hb1.size _⟩
set_option maxRecDepth 100000 in
set_option maxHeartbeats 1000000 in
theorem wrap_2 (v : Int) (w : World) : Calls Try.prog 26 #[.int .i64 2, .int .i64 v] w fun e w' => e = .returned (.int .i64 (wrapK 2 v)) ∧ Below w.heap.size w w' := by
  go_enter Try.func26, Try.ntmps26
  go_wp2_with (go_at_call 51; refine (of_2 _).mono ?_; rintro e w1 ⟨rfl, hb1⟩)
  go_ret
  exact ⟨ret_int (by (try simp only [wrapK, wrap_i8', wrap_i16', wrap_i32', wrap_u16', wrap_u32']) <;> (try unfold wrap64) <;> (try unfold wrap32) <;> omega), hb1.alloc hb1.size _⟩
set_option maxRecDepth 100000 in
set_option maxHeartbeats 1000000 in
theorem wrap_3 (v : Int) (w : World) : Calls Try.prog 26 #[.int .i64 3, .int .i64 v] w fun e w' => e = .returned (.int .i64 (wrapK 3 v)) ∧ Below w.heap.size w w' := by
  go_enter Try.func26, Try.ntmps26
  go_wp2_with (go_at_call 51; refine (of_3 _).mono ?_; rintro e w1 ⟨rfl, hb1⟩)
  go_ret
  exact ⟨ret_int (by (try simp only [wrapK, wrap_i8', wrap_i16', wrap_i32', wrap_u16', wrap_u32']) <;> (try unfold wrap64) <;> (try unfold wrap32) <;> omega), hb1.alloc hb1.size _⟩
set_option maxRecDepth 100000 in
set_option maxHeartbeats 1000000 in
theorem wrap_4 (v : Int) (w : World) : Calls Try.prog 26 #[.int .i64 4, .int .i64 v] w fun e w' => e = .returned (.int .i64 (wrapK 4 v)) ∧ Below w.heap.size w w' := by
  go_enter Try.func26, Try.ntmps26
  go_wp2_with (go_at_call 51; refine (of_4 _).mono ?_; rintro e w1 ⟨rfl, hb1⟩)
  go_ret
  exact ⟨ret_int (by (try simp only [wrapK, wrap_i8', wrap_i16', wrap_i32', wrap_u16', wrap_u32']) <;> (try unfold wrap64) <;> (try unfold wrap32) <;> omega), hb1.alloc hb1.size _⟩
set_option maxRecDepth 100000 in
set_option maxHeartbeats 1000000 in
theorem wrap_5 (v : Int) (w : World) : Calls Try.prog 26 #[.int .i64 5, .int .i64 v] w fun e w' => e = .returned (.int .i64 (wrapK 5 v)) ∧ Below w.heap.size w w' := by
  go_enter Try.func26, Try.ntmps26
  go_wp2_with (go_at_call 51; refine (of_5 _).mono ?_; rintro e w1 ⟨rfl, hb1⟩)
  go_ret
  exact ⟨ret_int (by (try simp only [wrapK, wrap_i8', wrap_i16', wrap_i32', wrap_u16', wrap_u32']) <;> (try unfold wrap64) <;> (try unfold wrap32) <;> omega), hb1.alloc hb1.size _⟩
set_option maxRecDepth 100000 in
set_option maxHeartbeats 1000000 in
theorem wrap_6 (v : Int) (w : World) : Calls Try.prog 26 #[.int .i64 6, .int .i64 v] w fun e w' => e = .returned (.int .i64 (wrapK 6 v)) ∧ Below w.heap.size w w' := by
  go_enter Try.func26, Try.ntmps26
  go_wp2_with (go_at_call 51; refine (of_6 _).mono ?_; rintro e w1 ⟨rfl, hb1⟩)
  go_ret
  exact ⟨ret_int (by (try simp only [wrapK, wrap_i8', wrap_i16', wrap_i32', wrap_u16', wrap_u32']) <;> (try unfold wrap64) <;> (try unfold wrap32) <;> omega), hb1.alloc hb1.size _⟩
set_option maxRecDepth 100000 in
set_option maxHeartbeats 1000000 in
theorem wrap_7 (v : Int) (w : World) : Calls Try.prog 26 #[.int .i64 7, .int .i64 v] w fun e w' => e = .returned (.int .i64 (wrapK 7 v)) ∧ Below w.heap.size w w' := by
  go_enter Try.func26, Try.ntmps26
  go_wp2_with (go_at_call 51; refine (of_7 _).mono ?_; rintro e w1 ⟨rfl, hb1⟩)
  go_ret
  exact ⟨ret_int (by (try simp only [wrapK, wrap_i8', wrap_i16', wrap_i32', wrap_u16', wrap_u32']) <;> (try unfold wrap64) <;> (try unfold wrap32) <;> omega), hb1.alloc hb1.size _⟩
set_option maxRecDepth 100000 in
set_option maxHeartbeats 1000000 in
theorem wrap_out (k : Int) (hk : k < 1 ∨ 7 < k) (v : Int) (w : World) : Calls Try.prog 26 #[.int .i64 k, .int .i64 v] w fun e w' => e = .returned (.int .i64 (wrapK 0 v)) ∧ Below w.heap.size w w' := by
  go_enter Try.func26, Try.ntmps26
  go_wp2_with (go_at_call 51; refine (of_out k hk _).mono ?_; rintro e w1 ⟨rfl, hb1⟩)
  go_ret
  exact ⟨ret_int (by simp [wrapK]), hb1.alloc hb1.size _⟩
end Go.Proofs.Ytclbmgnpgjhlhaa
end
/-! Is, May, Not; every function of a kind for every number (made by wip/mk_iec.py). -/
section
namespace Go.Proofs.Ytclbmgnpgjhlhaa
open Go.RowKit
theorem int_beq (a b : Int) : (a == b) = decide (a = b) := by by_cases h : a = b <;> simp [h]
theorem btr {w w1 w2 : World} (h : Below w.heap.size w w1) (k : Below w1.heap.size w1 w2) : Below w.heap.size w w2 := h.trans (k.mono h.size)
theorem size_any (k : Int) (w : World) : Calls Try.prog 25 #[.int .i64 k] w fun e w' => e = .returned (.int .i64 (sizeK (kN k))) ∧ Below w.heap.size w w' := by
  rcases kN_cases k with rfl | rfl | rfl | rfl | rfl | rfl | rfl | ⟨hk, h0⟩
  · exact size_1 w
  · exact size_2 w
  · exact size_3 w
  · exact size_4 w
  · exact size_5 w
  · exact size_6 w
  · exact size_7 w
  · rw [h0]; exact size_out k hk w
theorem wrap_any (k : Int) (v : Int) (w : World) : Calls Try.prog 26 #[.int .i64 k, .int .i64 v] w fun e w' => e = .returned (.int .i64 (wrapK (kN k) v)) ∧ Below w.heap.size w w' := by
  rcases kN_cases k with rfl | rfl | rfl | rfl | rfl | rfl | rfl | ⟨hk, h0⟩
  · exact wrap_1 v w
  · exact wrap_2 v w
  · exact wrap_3 v w
  · exact wrap_4 v w
  · exact wrap_5 v w
  · exact wrap_6 v w
  · exact wrap_7 v w
  · rw [h0]; exact wrap_out k hk v w
set_option maxRecDepth 100000 in
set_option maxHeartbeats 1000000 in
theorem is_1 (v : Int) (w : World) : Calls Try.prog 27 #[.int .i64 1, .int .i64 v] w fun e w' => e = .returned (.bool (isK 1 v)) ∧ Below w.heap.size w w' := by
  go_enter Try.func27, Try.ntmps27
  go_wp2_with fail
  refine (of_1 _).mono ?_
  rintro e w1 ⟨rfl, hb1⟩
  go_wp2_with fail
  refine (wrap_1 v _).mono ?_
  rintro e w2 ⟨rfl, hb2⟩
  go_wp2
  go_ret
  exact ⟨ret_bool (by simp [isK, int_beq]), btr (hb1.alloc hb1.size _) hb2⟩
set_option maxRecDepth 100000 in
set_option maxHeartbeats 1000000 in
theorem is_2 (v : Int) (w : World) : Calls Try.prog 27 #[.int .i64 2, .int .i64 v] w fun e w' => e = .returned (.bool (isK 2 v)) ∧ Below w.heap.size w w' := by
  go_enter Try.func27, Try.ntmps27
  go_wp2_with fail
  refine (of_2 _).mono ?_
  rintro e w1 ⟨rfl, hb1⟩
  go_wp2_with fail
  refine (wrap_2 v _).mono ?_
  rintro e w2 ⟨rfl, hb2⟩
  go_wp2
  go_ret
  exact ⟨ret_bool (by simp [isK, int_beq]), btr (hb1.alloc hb1.size _) hb2⟩
set_option maxRecDepth 100000 in
set_option maxHeartbeats 1000000 in
theorem is_3 (v : Int) (w : World) : Calls Try.prog 27 #[.int .i64 3, .int .i64 v] w fun e w' => e = .returned (.bool (isK 3 v)) ∧ Below w.heap.size w w' := by
  go_enter Try.func27, Try.ntmps27
  go_wp2_with fail
  refine (of_3 _).mono ?_
  rintro e w1 ⟨rfl, hb1⟩
  go_wp2_with fail
  refine (wrap_3 v _).mono ?_
  rintro e w2 ⟨rfl, hb2⟩
  go_wp2
  go_ret
  exact ⟨ret_bool (by simp [isK, int_beq]), btr (hb1.alloc hb1.size _) hb2⟩
set_option maxRecDepth 100000 in
set_option maxHeartbeats 1000000 in
theorem is_4 (v : Int) (w : World) : Calls Try.prog 27 #[.int .i64 4, .int .i64 v] w fun e w' => e = .returned (.bool (isK 4 v)) ∧ Below w.heap.size w w' := by
  go_enter Try.func27, Try.ntmps27
  go_wp2_with fail
  refine (of_4 _).mono ?_
  rintro e w1 ⟨rfl, hb1⟩
  go_wp2_with fail
  refine (wrap_4 v _).mono ?_
  rintro e w2 ⟨rfl, hb2⟩
  go_wp2
  go_ret
  exact ⟨ret_bool (by simp [isK, int_beq]), btr (hb1.alloc hb1.size _) hb2⟩
set_option maxRecDepth 100000 in
set_option maxHeartbeats 1000000 in
theorem is_5 (v : Int) (w : World) : Calls Try.prog 27 #[.int .i64 5, .int .i64 v] w fun e w' => e = .returned (.bool (isK 5 v)) ∧ Below w.heap.size w w' := by
  go_enter Try.func27, Try.ntmps27
  go_wp2_with fail
  refine (of_5 _).mono ?_
  rintro e w1 ⟨rfl, hb1⟩
  go_wp2_with fail
  refine (wrap_5 v _).mono ?_
  rintro e w2 ⟨rfl, hb2⟩
  go_wp2
  go_ret
  exact ⟨ret_bool (by simp [isK, int_beq]), btr (hb1.alloc hb1.size _) hb2⟩
set_option maxRecDepth 100000 in
set_option maxHeartbeats 1000000 in
theorem is_6 (v : Int) (w : World) : Calls Try.prog 27 #[.int .i64 6, .int .i64 v] w fun e w' => e = .returned (.bool (isK 6 v)) ∧ Below w.heap.size w w' := by
  go_enter Try.func27, Try.ntmps27
  go_wp2_with fail
  refine (of_6 _).mono ?_
  rintro e w1 ⟨rfl, hb1⟩
  go_wp2_with fail
  refine (wrap_6 v _).mono ?_
  rintro e w2 ⟨rfl, hb2⟩
  go_wp2
  go_ret
  exact ⟨ret_bool (by simp [isK, int_beq]), btr (hb1.alloc hb1.size _) hb2⟩
set_option maxRecDepth 100000 in
set_option maxHeartbeats 1000000 in
theorem is_7 (v : Int) (w : World) : Calls Try.prog 27 #[.int .i64 7, .int .i64 v] w fun e w' => e = .returned (.bool (isK 7 v)) ∧ Below w.heap.size w w' := by
  go_enter Try.func27, Try.ntmps27
  go_wp2_with fail
  refine (of_7 _).mono ?_
  rintro e w1 ⟨rfl, hb1⟩
  go_wp2_with fail
  refine (wrap_7 v _).mono ?_
  rintro e w2 ⟨rfl, hb2⟩
  go_wp2
  go_ret
  exact ⟨ret_bool (by simp [isK, int_beq]), btr (hb1.alloc hb1.size _) hb2⟩
set_option maxRecDepth 100000 in
set_option maxHeartbeats 1000000 in
theorem is_out (k : Int) (hk : k < 1 ∨ 7 < k) (v : Int) (w : World) : Calls Try.prog 27 #[.int .i64 k, .int .i64 v] w fun e w' => e = .returned (.bool (isK 0 v)) ∧ Below w.heap.size w w' := by
  go_enter Try.func27, Try.ntmps27
  go_wp2_with fail
  refine (of_out k hk _).mono ?_
  rintro e w1 ⟨rfl, hb1⟩
  go_wp2
  go_ret
  exact ⟨ret_bool (by simp [isK]), hb1.alloc hb1.size _⟩
theorem is_any (k : Int) (v : Int) (w : World) : Calls Try.prog 27 #[.int .i64 k, .int .i64 v] w fun e w' => e = .returned (.bool (isK (kN k) v)) ∧ Below w.heap.size w w' := by
  rcases kN_cases k with rfl | rfl | rfl | rfl | rfl | rfl | rfl | ⟨hk, h0⟩
  · exact is_1 v w
  · exact is_2 v w
  · exact is_3 v w
  · exact is_4 v w
  · exact is_5 v w
  · exact is_6 v w
  · exact is_7 v w
  · rw [h0]; exact is_out k hk v w
set_option maxRecDepth 100000 in
set_option maxHeartbeats 1000000 in
theorem may_1 (op : Int) (w : World) : Calls Try.prog 18 #[.int .i64 op, .int .i64 1] w fun e w' => e = .returned (.bool (mayK op 1)) ∧ Below w.heap.size w w' := by
  rcases (by omega : op < 7 ∨ (7 ≤ op ∧ op ≤ 13) ∨ (14 ≤ op ∧ op ≤ 18) ∨ (19 ≤ op ∧ op ≤ 24) ∨ 24 < op) with ho | ⟨h1, h2⟩ | ⟨h1, h2⟩ | ⟨h1, h2⟩ | ho
  · have hm : mayK op 1 = false := by rw [mayK, if_neg (by decide), if_neg (by omega), if_neg (by omega)]; simp; omega
    rw [hm]
    clear hm
    go_enter Try.func18, Try.ntmps18
    go_wp2_with (go_at_call 51; refine (of_1 _).mono ?_; rintro e w1 ⟨rfl, hb1⟩)
    go_ret
    exact ⟨rfl, hb1.alloc hb1.size _⟩
  · have hm : mayK op 1 = true := by rw [mayK, if_neg (by decide), if_pos ⟨by omega, by omega⟩]; rfl
    rw [hm]
    clear hm
    go_enter Try.func18, Try.ntmps18
    go_wp2_with (go_at_call 51; refine (of_1 _).mono ?_; rintro e w1 ⟨rfl, hb1⟩)
    go_ret
    exact ⟨rfl, hb1.alloc hb1.size _⟩
  · have hm : mayK op 1 = false := by rw [mayK, if_neg (by decide), if_neg (by omega), if_pos ⟨by omega, by omega⟩]; rfl
    rw [hm]
    clear hm
    go_enter Try.func18, Try.ntmps18
    go_wp2_with (go_at_call 51; refine (of_1 _).mono ?_; rintro e w1 ⟨rfl, hb1⟩)
    go_ret
    exact ⟨rfl, hb1.alloc hb1.size _⟩
  · have hm : mayK op 1 = true := by rw [mayK, if_neg (by decide), if_neg (by omega), if_neg (by omega)]; simp; omega
    rw [hm]
    clear hm
    go_enter Try.func18, Try.ntmps18
    go_wp2_with (go_at_call 51; refine (of_1 _).mono ?_; rintro e w1 ⟨rfl, hb1⟩)
    go_ret
    exact ⟨rfl, hb1.alloc hb1.size _⟩
  · have hm : mayK op 1 = false := by rw [mayK, if_neg (by decide), if_neg (by omega), if_neg (by omega)]; simp; omega
    rw [hm]
    clear hm
    go_enter Try.func18, Try.ntmps18
    go_wp2_with (go_at_call 51; refine (of_1 _).mono ?_; rintro e w1 ⟨rfl, hb1⟩)
    go_ret
    exact ⟨ret_bool (by simp; omega), hb1.alloc hb1.size _⟩
set_option maxRecDepth 100000 in
set_option maxHeartbeats 1000000 in
theorem may_2 (op : Int) (w : World) : Calls Try.prog 18 #[.int .i64 op, .int .i64 2] w fun e w' => e = .returned (.bool (mayK op 2)) ∧ Below w.heap.size w w' := by
  rcases (by omega : op < 7 ∨ (7 ≤ op ∧ op ≤ 13) ∨ (14 ≤ op ∧ op ≤ 18) ∨ (19 ≤ op ∧ op ≤ 24) ∨ 24 < op) with ho | ⟨h1, h2⟩ | ⟨h1, h2⟩ | ⟨h1, h2⟩ | ho
  · have hm : mayK op 2 = false := by rw [mayK, if_neg (by decide), if_neg (by omega), if_neg (by omega)]; simp; omega
    rw [hm]
    clear hm
    go_enter Try.func18, Try.ntmps18
    go_wp2_with (go_at_call 51; refine (of_2 _).mono ?_; rintro e w1 ⟨rfl, hb1⟩)
    go_ret
    exact ⟨rfl, hb1.alloc hb1.size _⟩
  · have hm : mayK op 2 = false := by rw [mayK, if_neg (by decide), if_pos ⟨by omega, by omega⟩]; rfl
    rw [hm]
    clear hm
    go_enter Try.func18, Try.ntmps18
    go_wp2_with (go_at_call 51; refine (of_2 _).mono ?_; rintro e w1 ⟨rfl, hb1⟩)
    go_ret
    exact ⟨rfl, hb1.alloc hb1.size _⟩
  · have hm : mayK op 2 = true := by rw [mayK, if_neg (by decide), if_neg (by omega), if_pos ⟨by omega, by omega⟩]; rfl
    rw [hm]
    clear hm
    go_enter Try.func18, Try.ntmps18
    go_wp2_with (go_at_call 51; refine (of_2 _).mono ?_; rintro e w1 ⟨rfl, hb1⟩)
    go_ret
    exact ⟨rfl, hb1.alloc hb1.size _⟩
  · have hm : mayK op 2 = true := by rw [mayK, if_neg (by decide), if_neg (by omega), if_neg (by omega)]; simp; omega
    rw [hm]
    clear hm
    go_enter Try.func18, Try.ntmps18
    go_wp2_with (go_at_call 51; refine (of_2 _).mono ?_; rintro e w1 ⟨rfl, hb1⟩)
    go_ret
    exact ⟨rfl, hb1.alloc hb1.size _⟩
  · have hm : mayK op 2 = false := by rw [mayK, if_neg (by decide), if_neg (by omega), if_neg (by omega)]; simp; omega
    rw [hm]
    clear hm
    go_enter Try.func18, Try.ntmps18
    go_wp2_with (go_at_call 51; refine (of_2 _).mono ?_; rintro e w1 ⟨rfl, hb1⟩)
    go_ret
    exact ⟨ret_bool (by simp; omega), hb1.alloc hb1.size _⟩
set_option maxRecDepth 100000 in
set_option maxHeartbeats 1000000 in
theorem may_3 (op : Int) (w : World) : Calls Try.prog 18 #[.int .i64 op, .int .i64 3] w fun e w' => e = .returned (.bool (mayK op 3)) ∧ Below w.heap.size w w' := by
  rcases (by omega : op < 7 ∨ (7 ≤ op ∧ op ≤ 13) ∨ (14 ≤ op ∧ op ≤ 18) ∨ (19 ≤ op ∧ op ≤ 24) ∨ 24 < op) with ho | ⟨h1, h2⟩ | ⟨h1, h2⟩ | ⟨h1, h2⟩ | ho
  · have hm : mayK op 3 = false := by rw [mayK, if_neg (by decide), if_neg (by omega), if_neg (by omega)]; simp; omega
    rw [hm]
    clear hm
    go_enter Try.func18, Try.ntmps18
    go_wp2_with (go_at_call 51; refine (of_3 _).mono ?_; rintro e w1 ⟨rfl, hb1⟩)
    go_ret
    exact ⟨rfl, hb1.alloc hb1.size _⟩
  · have hm : mayK op 3 = false := by rw [mayK, if_neg (by decide), if_pos ⟨by omega, by omega⟩]; rfl
    rw [hm]
    clear hm
    go_enter Try.func18, Try.ntmps18
    go_wp2_with (go_at_call 51; refine (of_3 _).mono ?_; rintro e w1 ⟨rfl, hb1⟩)
    go_ret
    exact ⟨rfl, hb1.alloc hb1.size _⟩
  · have hm : mayK op 3 = true := by rw [mayK, if_neg (by decide), if_neg (by omega), if_pos ⟨by omega, by omega⟩]; rfl
    rw [hm]
    clear hm
    go_enter Try.func18, Try.ntmps18
    go_wp2_with (go_at_call 51; refine (of_3 _).mono ?_; rintro e w1 ⟨rfl, hb1⟩)
    go_ret
    exact ⟨rfl, hb1.alloc hb1.size _⟩
  · have hm : mayK op 3 = true := by rw [mayK, if_neg (by decide), if_neg (by omega), if_neg (by omega)]; simp; omega
    rw [hm]
    clear hm
    go_enter Try.func18, Try.ntmps18
    go_wp2_with (go_at_call 51; refine (of_3 _).mono ?_; rintro e w1 ⟨rfl, hb1⟩)
    go_ret
    exact ⟨rfl, hb1.alloc hb1.size _⟩
  · have hm : mayK op 3 = false := by rw [mayK, if_neg (by decide), if_neg (by omega), if_neg (by omega)]; simp; omega
    rw [hm]
    clear hm
    go_enter Try.func18, Try.ntmps18
    go_wp2_with (go_at_call 51; refine (of_3 _).mono ?_; rintro e w1 ⟨rfl, hb1⟩)
    go_ret
    exact ⟨ret_bool (by simp; omega), hb1.alloc hb1.size _⟩
set_option maxRecDepth 100000 in
set_option maxHeartbeats 1000000 in
theorem may_4 (op : Int) (w : World) : Calls Try.prog 18 #[.int .i64 op, .int .i64 4] w fun e w' => e = .returned (.bool (mayK op 4)) ∧ Below w.heap.size w w' := by
  rcases (by omega : op < 7 ∨ (7 ≤ op ∧ op ≤ 13) ∨ (14 ≤ op ∧ op ≤ 18) ∨ (19 ≤ op ∧ op ≤ 24) ∨ 24 < op) with ho | ⟨h1, h2⟩ | ⟨h1, h2⟩ | ⟨h1, h2⟩ | ho
  · have hm : mayK op 4 = false := by rw [mayK, if_neg (by decide), if_neg (by omega), if_neg (by omega)]; simp; omega
    rw [hm]
    clear hm
    go_enter Try.func18, Try.ntmps18
    go_wp2_with (go_at_call 51; refine (of_4 _).mono ?_; rintro e w1 ⟨rfl, hb1⟩)
    go_ret
    exact ⟨rfl, hb1.alloc hb1.size _⟩
  · have hm : mayK op 4 = false := by rw [mayK, if_neg (by decide), if_pos ⟨by omega, by omega⟩]; rfl
    rw [hm]
    clear hm
    go_enter Try.func18, Try.ntmps18
    go_wp2_with (go_at_call 51; refine (of_4 _).mono ?_; rintro e w1 ⟨rfl, hb1⟩)
    go_ret
    exact ⟨rfl, hb1.alloc hb1.size _⟩
  · have hm : mayK op 4 = true := by rw [mayK, if_neg (by decide), if_neg (by omega), if_pos ⟨by omega, by omega⟩]; rfl
    rw [hm]
    clear hm
    go_enter Try.func18, Try.ntmps18
    go_wp2_with (go_at_call 51; refine (of_4 _).mono ?_; rintro e w1 ⟨rfl, hb1⟩)
    go_ret
    exact ⟨rfl, hb1.alloc hb1.size _⟩
  · have hm : mayK op 4 = true := by rw [mayK, if_neg (by decide), if_neg (by omega), if_neg (by omega)]; simp; omega
    rw [hm]
    clear hm
    go_enter Try.func18, Try.ntmps18
    go_wp2_with (go_at_call 51; refine (of_4 _).mono ?_; rintro e w1 ⟨rfl, hb1⟩)
    go_ret
    exact ⟨rfl, hb1.alloc hb1.size _⟩
  · have hm : mayK op 4 = false := by rw [mayK, if_neg (by decide), if_neg (by omega), if_neg (by omega)]; simp; omega
    rw [hm]
    clear hm
    go_enter Try.func18, Try.ntmps18
    go_wp2_with (go_at_call 51; refine (of_4 _).mono ?_; rintro e w1 ⟨rfl, hb1⟩)
    go_ret
    exact ⟨ret_bool (by simp; omega), hb1.alloc hb1.size _⟩
set_option maxRecDepth 100000 in
set_option maxHeartbeats 1000000 in
theorem may_5 (op : Int) (w : World) : Calls Try.prog 18 #[.int .i64 op, .int .i64 5] w fun e w' => e = .returned (.bool (mayK op 5)) ∧ Below w.heap.size w w' := by
  rcases (by omega : op < 7 ∨ (7 ≤ op ∧ op ≤ 13) ∨ (14 ≤ op ∧ op ≤ 18) ∨ (19 ≤ op ∧ op ≤ 24) ∨ 24 < op) with ho | ⟨h1, h2⟩ | ⟨h1, h2⟩ | ⟨h1, h2⟩ | ho
  · have hm : mayK op 5 = false := by rw [mayK, if_neg (by decide), if_neg (by omega), if_neg (by omega)]; simp; omega
    rw [hm]
    clear hm
    go_enter Try.func18, Try.ntmps18
    go_wp2_with (go_at_call 51; refine (of_5 _).mono ?_; rintro e w1 ⟨rfl, hb1⟩)
    go_ret
    exact ⟨rfl, hb1.alloc hb1.size _⟩
  · have hm : mayK op 5 = false := by rw [mayK, if_neg (by decide), if_pos ⟨by omega, by omega⟩]; rfl
    rw [hm]
    clear hm
    go_enter Try.func18, Try.ntmps18
    go_wp2_with (go_at_call 51; refine (of_5 _).mono ?_; rintro e w1 ⟨rfl, hb1⟩)
    go_ret
    exact ⟨rfl, hb1.alloc hb1.size _⟩
  · have hm : mayK op 5 = true := by rw [mayK, if_neg (by decide), if_neg (by omega), if_pos ⟨by omega, by omega⟩]; rfl
    rw [hm]
    clear hm
    go_enter Try.func18, Try.ntmps18
    go_wp2_with (go_at_call 51; refine (of_5 _).mono ?_; rintro e w1 ⟨rfl, hb1⟩)
    go_ret
    exact ⟨rfl, hb1.alloc hb1.size _⟩
  · have hm : mayK op 5 = true := by rw [mayK, if_neg (by decide), if_neg (by omega), if_neg (by omega)]; simp; omega
    rw [hm]
    clear hm
    go_enter Try.func18, Try.ntmps18
    go_wp2_with (go_at_call 51; refine (of_5 _).mono ?_; rintro e w1 ⟨rfl, hb1⟩)
    go_ret
    exact ⟨rfl, hb1.alloc hb1.size _⟩
  · have hm : mayK op 5 = false := by rw [mayK, if_neg (by decide), if_neg (by omega), if_neg (by omega)]; simp; omega
    rw [hm]
    clear hm
    go_enter Try.func18, Try.ntmps18
    go_wp2_with (go_at_call 51; refine (of_5 _).mono ?_; rintro e w1 ⟨rfl, hb1⟩)
    go_ret
    exact ⟨ret_bool (by simp; omega), hb1.alloc hb1.size _⟩
set_option maxRecDepth 100000 in
set_option maxHeartbeats 1000000 in
theorem may_6 (op : Int) (w : World) : Calls Try.prog 18 #[.int .i64 op, .int .i64 6] w fun e w' => e = .returned (.bool (mayK op 6)) ∧ Below w.heap.size w w' := by
  rcases (by omega : op < 7 ∨ (7 ≤ op ∧ op ≤ 13) ∨ (14 ≤ op ∧ op ≤ 18) ∨ (19 ≤ op ∧ op ≤ 24) ∨ 24 < op) with ho | ⟨h1, h2⟩ | ⟨h1, h2⟩ | ⟨h1, h2⟩ | ho
  · have hm : mayK op 6 = false := by rw [mayK, if_neg (by decide), if_neg (by omega), if_neg (by omega)]; simp; omega
    rw [hm]
    clear hm
    go_enter Try.func18, Try.ntmps18
    go_wp2_with (go_at_call 51; refine (of_6 _).mono ?_; rintro e w1 ⟨rfl, hb1⟩)
    go_ret
    exact ⟨rfl, hb1.alloc hb1.size _⟩
  · have hm : mayK op 6 = true := by rw [mayK, if_neg (by decide), if_pos ⟨by omega, by omega⟩]; rfl
    rw [hm]
    clear hm
    go_enter Try.func18, Try.ntmps18
    go_wp2_with (go_at_call 51; refine (of_6 _).mono ?_; rintro e w1 ⟨rfl, hb1⟩)
    go_ret
    exact ⟨rfl, hb1.alloc hb1.size _⟩
  · have hm : mayK op 6 = false := by rw [mayK, if_neg (by decide), if_neg (by omega), if_pos ⟨by omega, by omega⟩]; rfl
    rw [hm]
    clear hm
    go_enter Try.func18, Try.ntmps18
    go_wp2_with (go_at_call 51; refine (of_6 _).mono ?_; rintro e w1 ⟨rfl, hb1⟩)
    go_ret
    exact ⟨rfl, hb1.alloc hb1.size _⟩
  · have hm : mayK op 6 = true := by rw [mayK, if_neg (by decide), if_neg (by omega), if_neg (by omega)]; simp; omega
    rw [hm]
    clear hm
    go_enter Try.func18, Try.ntmps18
    go_wp2_with (go_at_call 51; refine (of_6 _).mono ?_; rintro e w1 ⟨rfl, hb1⟩)
    go_ret
    exact ⟨rfl, hb1.alloc hb1.size _⟩
  · have hm : mayK op 6 = false := by rw [mayK, if_neg (by decide), if_neg (by omega), if_neg (by omega)]; simp; omega
    rw [hm]
    clear hm
    go_enter Try.func18, Try.ntmps18
    go_wp2_with (go_at_call 51; refine (of_6 _).mono ?_; rintro e w1 ⟨rfl, hb1⟩)
    go_ret
    exact ⟨ret_bool (by simp; omega), hb1.alloc hb1.size _⟩
set_option maxRecDepth 100000 in
set_option maxHeartbeats 1000000 in
theorem may_7 (op : Int) (w : World) : Calls Try.prog 18 #[.int .i64 op, .int .i64 7] w fun e w' => e = .returned (.bool (mayK op 7)) ∧ Below w.heap.size w w' := by
  rcases (by omega : op < 7 ∨ (7 ≤ op ∧ op ≤ 13) ∨ (14 ≤ op ∧ op ≤ 18) ∨ (19 ≤ op ∧ op ≤ 24) ∨ 24 < op) with ho | ⟨h1, h2⟩ | ⟨h1, h2⟩ | ⟨h1, h2⟩ | ho
  · have hm : mayK op 7 = false := by rw [mayK, if_neg (by decide), if_neg (by omega), if_neg (by omega)]; simp; omega
    rw [hm]
    clear hm
    go_enter Try.func18, Try.ntmps18
    go_wp2_with (go_at_call 51; refine (of_7 _).mono ?_; rintro e w1 ⟨rfl, hb1⟩)
    go_ret
    exact ⟨rfl, hb1.alloc hb1.size _⟩
  · have hm : mayK op 7 = true := by rw [mayK, if_neg (by decide), if_pos ⟨by omega, by omega⟩]; rfl
    rw [hm]
    clear hm
    go_enter Try.func18, Try.ntmps18
    go_wp2_with (go_at_call 51; refine (of_7 _).mono ?_; rintro e w1 ⟨rfl, hb1⟩)
    go_ret
    exact ⟨rfl, hb1.alloc hb1.size _⟩
  · have hm : mayK op 7 = false := by rw [mayK, if_neg (by decide), if_neg (by omega), if_pos ⟨by omega, by omega⟩]; rfl
    rw [hm]
    clear hm
    go_enter Try.func18, Try.ntmps18
    go_wp2_with (go_at_call 51; refine (of_7 _).mono ?_; rintro e w1 ⟨rfl, hb1⟩)
    go_ret
    exact ⟨rfl, hb1.alloc hb1.size _⟩
  · have hm : mayK op 7 = true := by rw [mayK, if_neg (by decide), if_neg (by omega), if_neg (by omega)]; simp; omega
    rw [hm]
    clear hm
    go_enter Try.func18, Try.ntmps18
    go_wp2_with (go_at_call 51; refine (of_7 _).mono ?_; rintro e w1 ⟨rfl, hb1⟩)
    go_ret
    exact ⟨rfl, hb1.alloc hb1.size _⟩
  · have hm : mayK op 7 = false := by rw [mayK, if_neg (by decide), if_neg (by omega), if_neg (by omega)]; simp; omega
    rw [hm]
    clear hm
    go_enter Try.func18, Try.ntmps18
    go_wp2_with (go_at_call 51; refine (of_7 _).mono ?_; rintro e w1 ⟨rfl, hb1⟩)
    go_ret
    exact ⟨ret_bool (by simp; omega), hb1.alloc hb1.size _⟩
set_option maxRecDepth 100000 in
set_option maxHeartbeats 1000000 in
theorem may_out (k : Int) (hk : k < 1 ∨ 7 < k) (op : Int) (w : World) : Calls Try.prog 18 #[.int .i64 op, .int .i64 k] w fun e w' => e = .returned (.bool (mayK op 0)) ∧ Below w.heap.size w w' := by
  go_enter Try.func18, Try.ntmps18
  go_wp2_with (go_at_call 51; refine (of_out k hk _).mono ?_; rintro e w1 ⟨rfl, hb1⟩)
  go_ret
  exact ⟨ret_bool (by simp [mayK]), hb1.alloc hb1.size _⟩
theorem may_any (op k : Int) (w : World) : Calls Try.prog 18 #[.int .i64 op, .int .i64 k] w fun e w' => e = .returned (.bool (mayK op (kN k))) ∧ Below w.heap.size w w' := by
  rcases kN_cases k with rfl | rfl | rfl | rfl | rfl | rfl | rfl | ⟨hk, h0⟩
  · exact may_1 op w
  · exact may_2 op w
  · exact may_3 op w
  · exact may_4 op w
  · exact may_5 op w
  · exact may_6 op w
  · exact may_7 op w
  · rw [h0]; exact may_out k hk op w
end Go.Proofs.Ytclbmgnpgjhlhaa
end
/-! The document's kinds, walked kind by kind (made by wip/mk_iecref.py). -/
section
namespace Go.Proofs.Ytclbmgnpgjhlhaa
open Go.RowKit
set_option maxRecDepth 100000 in
set_option maxHeartbeats 1000000 in
theorem rsize_1 (w : World) : Calls Try.prog 32 #[.int .i64 1] w fun e w' => e = .returned (.int .i64 (sizeK 1)) ∧ Below w.heap.size w w' := by
  go_enter Try.func32, Try.ntmps32
  go_wp2
  go_ret
  exact ⟨rfl, (Below.refl _ _).alloc (Nat.le_refl _) _⟩
set_option maxRecDepth 100000 in
set_option maxHeartbeats 1000000 in
theorem rsize_2 (w : World) : Calls Try.prog 32 #[.int .i64 2] w fun e w' => e = .returned (.int .i64 (sizeK 2)) ∧ Below w.heap.size w w' := by
  go_enter Try.func32, Try.ntmps32
  go_wp2
  go_ret
  exact ⟨rfl, (Below.refl _ _).alloc (Nat.le_refl _) _⟩
set_option maxRecDepth 100000 in
set_option maxHeartbeats 1000000 in
theorem rsize_3 (w : World) : Calls Try.prog 32 #[.int .i64 3] w fun e w' => e = .returned (.int .i64 (sizeK 3)) ∧ Below w.heap.size w w' := by
  go_enter Try.func32, Try.ntmps32
  go_wp2
  go_ret
  exact ⟨rfl, (Below.refl _ _).alloc (Nat.le_refl _) _⟩
set_option maxRecDepth 100000 in
set_option maxHeartbeats 1000000 in
theorem rsize_4 (w : World) : Calls Try.prog 32 #[.int .i64 4] w fun e w' => e = .returned (.int .i64 (sizeK 4)) ∧ Below w.heap.size w w' := by
  go_enter Try.func32, Try.ntmps32
  go_wp2
  go_ret
  exact ⟨rfl, (Below.refl _ _).alloc (Nat.le_refl _) _⟩
set_option maxRecDepth 100000 in
set_option maxHeartbeats 1000000 in
theorem rsize_5 (w : World) : Calls Try.prog 32 #[.int .i64 5] w fun e w' => e = .returned (.int .i64 (sizeK 5)) ∧ Below w.heap.size w w' := by
  go_enter Try.func32, Try.ntmps32
  go_wp2
  go_ret
  exact ⟨rfl, (Below.refl _ _).alloc (Nat.le_refl _) _⟩
set_option maxRecDepth 100000 in
set_option maxHeartbeats 1000000 in
theorem rsize_6 (w : World) : Calls Try.prog 32 #[.int .i64 6] w fun e w' => e = .returned (.int .i64 (sizeK 6)) ∧ Below w.heap.size w w' := by
  go_enter Try.func32, Try.ntmps32
  go_wp2
  go_ret
  exact ⟨rfl, (Below.refl _ _).alloc (Nat.le_refl _) _⟩
set_option maxRecDepth 100000 in
set_option maxHeartbeats 1000000 in
theorem rsize_7 (w : World) : Calls Try.prog 32 #[.int .i64 7] w fun e w' => e = .returned (.int .i64 (sizeK 7)) ∧ Below w.heap.size w w' := by
  go_enter Try.func32, Try.ntmps32
  go_wp2
  go_ret
  exact ⟨rfl, (Below.refl _ _).alloc (Nat.le_refl _) _⟩
set_option maxRecDepth 100000 in
set_option maxHeartbeats 1000000 in
theorem rsize_out (k : Int) (hk : k < 1 ∨ 7 < k) (w : World) : Calls Try.prog 32 #[.int .i64 k] w fun e w' => e = .returned (.int .i64 (sizeK 0)) ∧ Below w.heap.size w w' := by
  rcases (by omega : k < 0 ∨ k = 0 ∨ 7 < k) with h | rfl | h
  all_goals
    go_enter Try.func32, Try.ntmps32
    go_wp2
    go_ret
    exact ⟨rfl, (Below.refl _ _).alloc (Nat.le_refl _) _⟩
theorem rsize_any (k : Int) (w : World) : Calls Try.prog 32 #[.int .i64 k] w fun e w' => e = .returned (.int .i64 (sizeK (kN k))) ∧ Below w.heap.size w w' := by
  rcases kN_cases k with rfl | rfl | rfl | rfl | rfl | rfl | rfl | ⟨hk, h0⟩
  · exact rsize_1 w
  · exact rsize_2 w
  · exact rsize_3 w
  · exact rsize_4 w
  · exact rsize_5 w
  · exact rsize_6 w
  · exact rsize_7 w
  · rw [h0]; exact rsize_out k hk w
set_option maxRecDepth 100000 in
set_option maxHeartbeats 1000000 in
theorem rmany_1 (w : World) : Calls Try.prog 46 #[.int .i64 1] w fun e w' => e = .returned (.int .i64 (manyK 1)) ∧ Below w.heap.size w w' := by
  have hb0 := Below.refl w.heap.size w
  go_enter Try.func46, Try.ntmps46
  go_wp2
  go_ret
  exact ⟨rfl, hb0⟩
set_option maxRecDepth 100000 in
set_option maxHeartbeats 1000000 in
theorem rmany_2 (w : World) : Calls Try.prog 46 #[.int .i64 2] w fun e w' => e = .returned (.int .i64 (manyK 2)) ∧ Below w.heap.size w w' := by
  have hb0 := Below.refl w.heap.size w
  go_enter Try.func46, Try.ntmps46
  go_wp2_with fail
  refine wp_loop_rounds 2 ?_
  rw [rounds_succ]
  go_wp2_with fail
  refine (rsize_2 _).mono ?_
  rintro e w1 ⟨rfl, hc1⟩
  have hb1 := btr hb0 hc1
  rw [show sizeK 2 = 1 from rfl]
  go_wp2_with fail
  rw [rounds_succ]
  go_wp2_with fail
  refine (rsize_2 _).mono ?_
  rintro e w2 ⟨rfl, hc2⟩
  have hb2 := btr hb1 hc2
  rw [show sizeK 2 = 1 from rfl]
  go_wp2
  go_ret
  exact ⟨rfl, hb2⟩
set_option maxRecDepth 100000 in
set_option maxHeartbeats 1000000 in
theorem rmany_3 (w : World) : Calls Try.prog 46 #[.int .i64 3] w fun e w' => e = .returned (.int .i64 (manyK 3)) ∧ Below w.heap.size w w' := by
  have hb0 := Below.refl w.heap.size w
  go_enter Try.func46, Try.ntmps46
  go_wp2_with fail
  refine wp_loop_rounds 3 ?_
  rw [rounds_succ]
  go_wp2_with fail
  refine (rsize_3 _).mono ?_
  rintro e w1 ⟨rfl, hc1⟩
  have hb1 := btr hb0 hc1
  rw [show sizeK 3 = 2 from rfl]
  go_wp2_with fail
  rw [rounds_succ]
  go_wp2_with fail
  refine (rsize_3 _).mono ?_
  rintro e w2 ⟨rfl, hc2⟩
  have hb2 := btr hb1 hc2
  rw [show sizeK 3 = 2 from rfl]
  go_wp2_with fail
  rw [rounds_succ]
  go_wp2_with fail
  refine (rsize_3 _).mono ?_
  rintro e w3 ⟨rfl, hc3⟩
  have hb3 := btr hb2 hc3
  rw [show sizeK 3 = 2 from rfl]
  go_wp2
  go_ret
  exact ⟨rfl, hb3⟩
set_option maxRecDepth 100000 in
set_option maxHeartbeats 1000000 in
theorem rmany_4 (w : World) : Calls Try.prog 46 #[.int .i64 4] w fun e w' => e = .returned (.int .i64 (manyK 4)) ∧ Below w.heap.size w w' := by
  have hb0 := Below.refl w.heap.size w
  go_enter Try.func46, Try.ntmps46
  go_wp2_with fail
  refine wp_loop_rounds 5 ?_
  rw [rounds_succ]
  go_wp2_with fail
  refine (rsize_4 _).mono ?_
  rintro e w1 ⟨rfl, hc1⟩
  have hb1 := btr hb0 hc1
  rw [show sizeK 4 = 4 from rfl]
  go_wp2_with fail
  rw [rounds_succ]
  go_wp2_with fail
  refine (rsize_4 _).mono ?_
  rintro e w2 ⟨rfl, hc2⟩
  have hb2 := btr hb1 hc2
  rw [show sizeK 4 = 4 from rfl]
  go_wp2_with fail
  rw [rounds_succ]
  go_wp2_with fail
  refine (rsize_4 _).mono ?_
  rintro e w3 ⟨rfl, hc3⟩
  have hb3 := btr hb2 hc3
  rw [show sizeK 4 = 4 from rfl]
  go_wp2_with fail
  rw [rounds_succ]
  go_wp2_with fail
  refine (rsize_4 _).mono ?_
  rintro e w4 ⟨rfl, hc4⟩
  have hb4 := btr hb3 hc4
  rw [show sizeK 4 = 4 from rfl]
  go_wp2_with fail
  rw [rounds_succ]
  go_wp2_with fail
  refine (rsize_4 _).mono ?_
  rintro e w5 ⟨rfl, hc5⟩
  have hb5 := btr hb4 hc5
  rw [show sizeK 4 = 4 from rfl]
  go_wp2
  go_ret
  exact ⟨rfl, hb5⟩
set_option maxRecDepth 100000 in
set_option maxHeartbeats 1000000 in
theorem rmany_5 (w : World) : Calls Try.prog 46 #[.int .i64 5] w fun e w' => e = .returned (.int .i64 (manyK 5)) ∧ Below w.heap.size w w' := by
  have hb0 := Below.refl w.heap.size w
  go_enter Try.func46, Try.ntmps46
  go_wp2_with fail
  refine wp_loop_rounds 3 ?_
  rw [rounds_succ]
  go_wp2_with fail
  refine (rsize_5 _).mono ?_
  rintro e w1 ⟨rfl, hc1⟩
  have hb1 := btr hb0 hc1
  rw [show sizeK 5 = 2 from rfl]
  go_wp2_with fail
  rw [rounds_succ]
  go_wp2_with fail
  refine (rsize_5 _).mono ?_
  rintro e w2 ⟨rfl, hc2⟩
  have hb2 := btr hb1 hc2
  rw [show sizeK 5 = 2 from rfl]
  go_wp2_with fail
  rw [rounds_succ]
  go_wp2_with fail
  refine (rsize_5 _).mono ?_
  rintro e w3 ⟨rfl, hc3⟩
  have hb3 := btr hb2 hc3
  rw [show sizeK 5 = 2 from rfl]
  go_wp2
  go_ret
  exact ⟨rfl, hb3⟩
set_option maxRecDepth 100000 in
set_option maxHeartbeats 1000000 in
theorem rmany_6 (w : World) : Calls Try.prog 46 #[.int .i64 6] w fun e w' => e = .returned (.int .i64 (manyK 6)) ∧ Below w.heap.size w w' := by
  have hb0 := Below.refl w.heap.size w
  go_enter Try.func46, Try.ntmps46
  go_wp2_with fail
  refine wp_loop_rounds 3 ?_
  rw [rounds_succ]
  go_wp2_with fail
  refine (rsize_6 _).mono ?_
  rintro e w1 ⟨rfl, hc1⟩
  have hb1 := btr hb0 hc1
  rw [show sizeK 6 = 2 from rfl]
  go_wp2_with fail
  rw [rounds_succ]
  go_wp2_with fail
  refine (rsize_6 _).mono ?_
  rintro e w2 ⟨rfl, hc2⟩
  have hb2 := btr hb1 hc2
  rw [show sizeK 6 = 2 from rfl]
  go_wp2_with fail
  rw [rounds_succ]
  go_wp2_with fail
  refine (rsize_6 _).mono ?_
  rintro e w3 ⟨rfl, hc3⟩
  have hb3 := btr hb2 hc3
  rw [show sizeK 6 = 2 from rfl]
  go_wp2
  go_ret
  exact ⟨rfl, hb3⟩
set_option maxRecDepth 100000 in
set_option maxHeartbeats 1000000 in
theorem rmany_7 (w : World) : Calls Try.prog 46 #[.int .i64 7] w fun e w' => e = .returned (.int .i64 (manyK 7)) ∧ Below w.heap.size w w' := by
  have hb0 := Below.refl w.heap.size w
  go_enter Try.func46, Try.ntmps46
  go_wp2_with fail
  refine wp_loop_rounds 5 ?_
  rw [rounds_succ]
  go_wp2_with fail
  refine (rsize_7 _).mono ?_
  rintro e w1 ⟨rfl, hc1⟩
  have hb1 := btr hb0 hc1
  rw [show sizeK 7 = 4 from rfl]
  go_wp2_with fail
  rw [rounds_succ]
  go_wp2_with fail
  refine (rsize_7 _).mono ?_
  rintro e w2 ⟨rfl, hc2⟩
  have hb2 := btr hb1 hc2
  rw [show sizeK 7 = 4 from rfl]
  go_wp2_with fail
  rw [rounds_succ]
  go_wp2_with fail
  refine (rsize_7 _).mono ?_
  rintro e w3 ⟨rfl, hc3⟩
  have hb3 := btr hb2 hc3
  rw [show sizeK 7 = 4 from rfl]
  go_wp2_with fail
  rw [rounds_succ]
  go_wp2_with fail
  refine (rsize_7 _).mono ?_
  rintro e w4 ⟨rfl, hc4⟩
  have hb4 := btr hb3 hc4
  rw [show sizeK 7 = 4 from rfl]
  go_wp2_with fail
  rw [rounds_succ]
  go_wp2_with fail
  refine (rsize_7 _).mono ?_
  rintro e w5 ⟨rfl, hc5⟩
  have hb5 := btr hb4 hc5
  rw [show sizeK 7 = 4 from rfl]
  go_wp2
  go_ret
  exact ⟨rfl, hb5⟩
set_option maxRecDepth 100000 in
set_option maxHeartbeats 1000000 in
theorem rmany_out (k : Int) (hk : k < 1 ∨ 7 < k) (w : World) : Calls Try.prog 46 #[.int .i64 k] w fun e w' => e = .returned (.int .i64 (manyK 0)) ∧ Below w.heap.size w w' := by
  have h1 : (k == 1) = false := by rw [beq_eq_false_iff_ne]; omega
  have hb0 := Below.refl w.heap.size w
  go_enter Try.func46, Try.ntmps46
  go_wp2_with fail
  refine wp_loop_rounds 1 ?_
  rw [rounds_succ]
  go_wp2_with fail
  refine (rsize_out k hk _).mono ?_
  rintro e w1 ⟨rfl, hc1⟩
  have hb1 := btr hb0 hc1
  rw [show sizeK 0 = 0 from rfl]
  go_wp2
  go_ret
  exact ⟨rfl, hb1⟩
theorem rmany_any (k : Int) (w : World) : Calls Try.prog 46 #[.int .i64 k] w fun e w' => e = .returned (.int .i64 (manyK (kN k))) ∧ Below w.heap.size w w' := by
  rcases kN_cases k with rfl | rfl | rfl | rfl | rfl | rfl | rfl | ⟨hk, h0⟩
  · exact rmany_1 w
  · exact rmany_2 w
  · exact rmany_3 w
  · exact rmany_4 w
  · exact rmany_5 w
  · exact rmany_6 w
  · exact rmany_7 w
  · rw [h0]; exact rmany_out k hk w
set_option maxRecDepth 100000 in
set_option maxHeartbeats 1000000 in
theorem rleast_1 (w : World) : Calls Try.prog 47 #[.int .i64 1] w fun e w' => e = .returned (.int .i64 (leastK 1)) ∧ Below w.heap.size w w' := by
  go_enter Try.func47, Try.ntmps47
  go_wp2
  go_ret
  exact ⟨rfl, Below.refl _ _⟩
set_option maxRecDepth 100000 in
set_option maxHeartbeats 1000000 in
theorem rleast_2 (w : World) : Calls Try.prog 47 #[.int .i64 2] w fun e w' => e = .returned (.int .i64 (leastK 2)) ∧ Below w.heap.size w w' := by
  have hb0 := Below.refl w.heap.size w
  go_enter Try.func47, Try.ntmps47
  go_wp2_with fail
  refine (rmany_2 _).mono ?_
  rintro e w1 ⟨rfl, hc1⟩
  have hb1 := btr hb0 hc1
  rw [show manyK 2 = 256 from rfl]
  go_wp2
  go_ret
  exact ⟨ret_int (by decide), hb1⟩
set_option maxRecDepth 100000 in
set_option maxHeartbeats 1000000 in
theorem rleast_3 (w : World) : Calls Try.prog 47 #[.int .i64 3] w fun e w' => e = .returned (.int .i64 (leastK 3)) ∧ Below w.heap.size w w' := by
  have hb0 := Below.refl w.heap.size w
  go_enter Try.func47, Try.ntmps47
  go_wp2_with fail
  refine (rmany_3 _).mono ?_
  rintro e w1 ⟨rfl, hc1⟩
  have hb1 := btr hb0 hc1
  rw [show manyK 3 = 65536 from rfl]
  go_wp2
  go_ret
  exact ⟨ret_int (by decide), hb1⟩
set_option maxRecDepth 100000 in
set_option maxHeartbeats 1000000 in
theorem rleast_4 (w : World) : Calls Try.prog 47 #[.int .i64 4] w fun e w' => e = .returned (.int .i64 (leastK 4)) ∧ Below w.heap.size w w' := by
  have hb0 := Below.refl w.heap.size w
  go_enter Try.func47, Try.ntmps47
  go_wp2_with fail
  refine (rmany_4 _).mono ?_
  rintro e w1 ⟨rfl, hc1⟩
  have hb1 := btr hb0 hc1
  rw [show manyK 4 = 4294967296 from rfl]
  go_wp2
  go_ret
  exact ⟨ret_int (by decide), hb1⟩
set_option maxRecDepth 100000 in
set_option maxHeartbeats 1000000 in
theorem rleast_5 (w : World) : Calls Try.prog 47 #[.int .i64 5] w fun e w' => e = .returned (.int .i64 (leastK 5)) ∧ Below w.heap.size w w' := by
  go_enter Try.func47, Try.ntmps47
  go_wp2
  go_ret
  exact ⟨rfl, Below.refl _ _⟩
set_option maxRecDepth 100000 in
set_option maxHeartbeats 1000000 in
theorem rleast_6 (w : World) : Calls Try.prog 47 #[.int .i64 6] w fun e w' => e = .returned (.int .i64 (leastK 6)) ∧ Below w.heap.size w w' := by
  go_enter Try.func47, Try.ntmps47
  go_wp2
  go_ret
  exact ⟨rfl, Below.refl _ _⟩
set_option maxRecDepth 100000 in
set_option maxHeartbeats 1000000 in
theorem rleast_7 (w : World) : Calls Try.prog 47 #[.int .i64 7] w fun e w' => e = .returned (.int .i64 (leastK 7)) ∧ Below w.heap.size w w' := by
  go_enter Try.func47, Try.ntmps47
  go_wp2
  go_ret
  exact ⟨rfl, Below.refl _ _⟩
set_option maxRecDepth 100000 in
set_option maxHeartbeats 1000000 in
theorem rleast_out (k : Int) (hk : k < 1 ∨ 7 < k) (w : World) : Calls Try.prog 47 #[.int .i64 k] w fun e w' => e = .returned (.int .i64 (leastK 0)) ∧ Below w.heap.size w w' := by
  rcases hk with hk | hk
  all_goals
    go_enter Try.func47, Try.ntmps47
    go_wp2
    go_ret
    exact ⟨rfl, Below.refl _ _⟩
theorem rleast_any (k : Int) (w : World) : Calls Try.prog 47 #[.int .i64 k] w fun e w' => e = .returned (.int .i64 (leastK (kN k))) ∧ Below w.heap.size w w' := by
  rcases kN_cases k with rfl | rfl | rfl | rfl | rfl | rfl | rfl | ⟨hk, h0⟩
  · exact rleast_1 w
  · exact rleast_2 w
  · exact rleast_3 w
  · exact rleast_4 w
  · exact rleast_5 w
  · exact rleast_6 w
  · exact rleast_7 w
  · rw [h0]; exact rleast_out k hk w
end Go.Proofs.Ytclbmgnpgjhlhaa
end
/-! The document's Is, Wrap, May, Not (made by wip/mk_iecref.py). -/
section
namespace Go.Proofs.Ytclbmgnpgjhlhaa
open Go.RowKit
set_option maxRecDepth 100000 in
set_option maxHeartbeats 1000000 in
theorem ris_1 (v : Int) (w : World) : Calls Try.prog 34 #[.int .i64 1, .int .i64 v] w fun e w' => e = .returned (.bool (isK 1 v)) ∧ Below w.heap.size w w' := by
  have hr := isK_range 1 v
  simp [leastK, manyK] at hr
  have HR := Lib.hid hr
  clear hr
  have hb0 := Below.refl w.heap.size w
  by_cases hv : 0 ≤ v
  · go_enter Try.func34, Try.ntmps34
    go_wp2_with fail
    refine (rsize_1 _).mono ?_
    rintro e w1 ⟨rfl, hc1⟩
    have hb1 := btr hb0 hc1
    rw [show sizeK 1 = 1 from rfl]
    go_wp2_with fail
    refine (rleast_1 _).mono ?_
    rintro e w2 ⟨rfl, hc2⟩
    have hb2 := btr hb1 hc2
    rw [show leastK 1 = 0 from rfl]
    go_wp2_with fail
    refine (rleast_1 _).mono ?_
    rintro e w3 ⟨rfl, hc3⟩
    have hb3 := btr hb2 hc3
    rw [show leastK 1 = 0 from rfl]
    go_wp2_with fail
    refine (rmany_1 _).mono ?_
    rintro e w4 ⟨rfl, hc4⟩
    have hb4 := btr hb3 hc4
    rw [show manyK 1 = 2 from rfl]
    go_wp2
    go_ret
    exact ⟨ret_bool (by rw [HR.out]; simp; omega), hb4⟩
  · go_enter Try.func34, Try.ntmps34
    go_wp2_with fail
    refine (rsize_1 _).mono ?_
    rintro e w1 ⟨rfl, hc1⟩
    have hb1 := btr hb0 hc1
    rw [show sizeK 1 = 1 from rfl]
    go_wp2_with fail
    refine (rleast_1 _).mono ?_
    rintro e w2 ⟨rfl, hc2⟩
    have hb2 := btr hb1 hc2
    rw [show leastK 1 = 0 from rfl]
    go_wp2
    go_ret
    exact ⟨ret_bool (by rw [HR.out]; simp; omega), hb2⟩
set_option maxRecDepth 100000 in
set_option maxHeartbeats 1000000 in
theorem ris_2 (v : Int) (w : World) : Calls Try.prog 34 #[.int .i64 2, .int .i64 v] w fun e w' => e = .returned (.bool (isK 2 v)) ∧ Below w.heap.size w w' := by
  have hr := isK_range 2 v
  simp [leastK, manyK] at hr
  have HR := Lib.hid hr
  clear hr
  have hb0 := Below.refl w.heap.size w
  by_cases hv : -128 ≤ v
  · go_enter Try.func34, Try.ntmps34
    go_wp2_with fail
    refine (rsize_2 _).mono ?_
    rintro e w1 ⟨rfl, hc1⟩
    have hb1 := btr hb0 hc1
    rw [show sizeK 2 = 1 from rfl]
    go_wp2_with fail
    refine (rleast_2 _).mono ?_
    rintro e w2 ⟨rfl, hc2⟩
    have hb2 := btr hb1 hc2
    rw [show leastK 2 = -128 from rfl]
    go_wp2_with fail
    refine (rleast_2 _).mono ?_
    rintro e w3 ⟨rfl, hc3⟩
    have hb3 := btr hb2 hc3
    rw [show leastK 2 = -128 from rfl]
    go_wp2_with fail
    refine (rmany_2 _).mono ?_
    rintro e w4 ⟨rfl, hc4⟩
    have hb4 := btr hb3 hc4
    rw [show manyK 2 = 256 from rfl]
    go_wp2
    go_ret
    exact ⟨ret_bool (by rw [HR.out]; simp; omega), hb4⟩
  · go_enter Try.func34, Try.ntmps34
    go_wp2_with fail
    refine (rsize_2 _).mono ?_
    rintro e w1 ⟨rfl, hc1⟩
    have hb1 := btr hb0 hc1
    rw [show sizeK 2 = 1 from rfl]
    go_wp2_with fail
    refine (rleast_2 _).mono ?_
    rintro e w2 ⟨rfl, hc2⟩
    have hb2 := btr hb1 hc2
    rw [show leastK 2 = -128 from rfl]
    go_wp2
    go_ret
    exact ⟨ret_bool (by rw [HR.out]; simp; omega), hb2⟩
set_option maxRecDepth 100000 in
set_option maxHeartbeats 1000000 in
theorem ris_3 (v : Int) (w : World) : Calls Try.prog 34 #[.int .i64 3, .int .i64 v] w fun e w' => e = .returned (.bool (isK 3 v)) ∧ Below w.heap.size w w' := by
  have hr := isK_range 3 v
  simp [leastK, manyK] at hr
  have HR := Lib.hid hr
  clear hr
  have hb0 := Below.refl w.heap.size w
  by_cases hv : -32768 ≤ v
  · go_enter Try.func34, Try.ntmps34
    go_wp2_with fail
    refine (rsize_3 _).mono ?_
    rintro e w1 ⟨rfl, hc1⟩
    have hb1 := btr hb0 hc1
    rw [show sizeK 3 = 2 from rfl]
    go_wp2_with fail
    refine (rleast_3 _).mono ?_
    rintro e w2 ⟨rfl, hc2⟩
    have hb2 := btr hb1 hc2
    rw [show leastK 3 = -32768 from rfl]
    go_wp2_with fail
    refine (rleast_3 _).mono ?_
    rintro e w3 ⟨rfl, hc3⟩
    have hb3 := btr hb2 hc3
    rw [show leastK 3 = -32768 from rfl]
    go_wp2_with fail
    refine (rmany_3 _).mono ?_
    rintro e w4 ⟨rfl, hc4⟩
    have hb4 := btr hb3 hc4
    rw [show manyK 3 = 65536 from rfl]
    go_wp2
    go_ret
    exact ⟨ret_bool (by rw [HR.out]; simp; omega), hb4⟩
  · go_enter Try.func34, Try.ntmps34
    go_wp2_with fail
    refine (rsize_3 _).mono ?_
    rintro e w1 ⟨rfl, hc1⟩
    have hb1 := btr hb0 hc1
    rw [show sizeK 3 = 2 from rfl]
    go_wp2_with fail
    refine (rleast_3 _).mono ?_
    rintro e w2 ⟨rfl, hc2⟩
    have hb2 := btr hb1 hc2
    rw [show leastK 3 = -32768 from rfl]
    go_wp2
    go_ret
    exact ⟨ret_bool (by rw [HR.out]; simp; omega), hb2⟩
set_option maxRecDepth 100000 in
set_option maxHeartbeats 1000000 in
theorem ris_4 (v : Int) (w : World) : Calls Try.prog 34 #[.int .i64 4, .int .i64 v] w fun e w' => e = .returned (.bool (isK 4 v)) ∧ Below w.heap.size w w' := by
  have hr := isK_range 4 v
  simp [leastK, manyK] at hr
  have HR := Lib.hid hr
  clear hr
  have hb0 := Below.refl w.heap.size w
  by_cases hv : -2147483648 ≤ v
  · go_enter Try.func34, Try.ntmps34
    go_wp2_with fail
    refine (rsize_4 _).mono ?_
    rintro e w1 ⟨rfl, hc1⟩
    have hb1 := btr hb0 hc1
    rw [show sizeK 4 = 4 from rfl]
    go_wp2_with fail
    refine (rleast_4 _).mono ?_
    rintro e w2 ⟨rfl, hc2⟩
    have hb2 := btr hb1 hc2
    rw [show leastK 4 = -2147483648 from rfl]
    go_wp2_with fail
    refine (rleast_4 _).mono ?_
    rintro e w3 ⟨rfl, hc3⟩
    have hb3 := btr hb2 hc3
    rw [show leastK 4 = -2147483648 from rfl]
    go_wp2_with fail
    refine (rmany_4 _).mono ?_
    rintro e w4 ⟨rfl, hc4⟩
    have hb4 := btr hb3 hc4
    rw [show manyK 4 = 4294967296 from rfl]
    go_wp2
    go_ret
    exact ⟨ret_bool (by rw [HR.out]; simp; omega), hb4⟩
  · go_enter Try.func34, Try.ntmps34
    go_wp2_with fail
    refine (rsize_4 _).mono ?_
    rintro e w1 ⟨rfl, hc1⟩
    have hb1 := btr hb0 hc1
    rw [show sizeK 4 = 4 from rfl]
    go_wp2_with fail
    refine (rleast_4 _).mono ?_
    rintro e w2 ⟨rfl, hc2⟩
    have hb2 := btr hb1 hc2
    rw [show leastK 4 = -2147483648 from rfl]
    go_wp2
    go_ret
    exact ⟨ret_bool (by rw [HR.out]; simp; omega), hb2⟩
set_option maxRecDepth 100000 in
set_option maxHeartbeats 1000000 in
theorem ris_5 (v : Int) (w : World) : Calls Try.prog 34 #[.int .i64 5, .int .i64 v] w fun e w' => e = .returned (.bool (isK 5 v)) ∧ Below w.heap.size w w' := by
  have hr := isK_range 5 v
  simp [leastK, manyK] at hr
  have HR := Lib.hid hr
  clear hr
  have hb0 := Below.refl w.heap.size w
  by_cases hv : 0 ≤ v
  · go_enter Try.func34, Try.ntmps34
    go_wp2_with fail
    refine (rsize_5 _).mono ?_
    rintro e w1 ⟨rfl, hc1⟩
    have hb1 := btr hb0 hc1
    rw [show sizeK 5 = 2 from rfl]
    go_wp2_with fail
    refine (rleast_5 _).mono ?_
    rintro e w2 ⟨rfl, hc2⟩
    have hb2 := btr hb1 hc2
    rw [show leastK 5 = 0 from rfl]
    go_wp2_with fail
    refine (rleast_5 _).mono ?_
    rintro e w3 ⟨rfl, hc3⟩
    have hb3 := btr hb2 hc3
    rw [show leastK 5 = 0 from rfl]
    go_wp2_with fail
    refine (rmany_5 _).mono ?_
    rintro e w4 ⟨rfl, hc4⟩
    have hb4 := btr hb3 hc4
    rw [show manyK 5 = 65536 from rfl]
    go_wp2
    go_ret
    exact ⟨ret_bool (by rw [HR.out]; simp; omega), hb4⟩
  · go_enter Try.func34, Try.ntmps34
    go_wp2_with fail
    refine (rsize_5 _).mono ?_
    rintro e w1 ⟨rfl, hc1⟩
    have hb1 := btr hb0 hc1
    rw [show sizeK 5 = 2 from rfl]
    go_wp2_with fail
    refine (rleast_5 _).mono ?_
    rintro e w2 ⟨rfl, hc2⟩
    have hb2 := btr hb1 hc2
    rw [show leastK 5 = 0 from rfl]
    go_wp2
    go_ret
    exact ⟨ret_bool (by rw [HR.out]; simp; omega), hb2⟩
set_option maxRecDepth 100000 in
set_option maxHeartbeats 1000000 in
theorem ris_6 (v : Int) (w : World) : Calls Try.prog 34 #[.int .i64 6, .int .i64 v] w fun e w' => e = .returned (.bool (isK 6 v)) ∧ Below w.heap.size w w' := by
  have hr := isK_range 6 v
  simp [leastK, manyK] at hr
  have HR := Lib.hid hr
  clear hr
  have hb0 := Below.refl w.heap.size w
  by_cases hv : 0 ≤ v
  · go_enter Try.func34, Try.ntmps34
    go_wp2_with fail
    refine (rsize_6 _).mono ?_
    rintro e w1 ⟨rfl, hc1⟩
    have hb1 := btr hb0 hc1
    rw [show sizeK 6 = 2 from rfl]
    go_wp2_with fail
    refine (rleast_6 _).mono ?_
    rintro e w2 ⟨rfl, hc2⟩
    have hb2 := btr hb1 hc2
    rw [show leastK 6 = 0 from rfl]
    go_wp2_with fail
    refine (rleast_6 _).mono ?_
    rintro e w3 ⟨rfl, hc3⟩
    have hb3 := btr hb2 hc3
    rw [show leastK 6 = 0 from rfl]
    go_wp2_with fail
    refine (rmany_6 _).mono ?_
    rintro e w4 ⟨rfl, hc4⟩
    have hb4 := btr hb3 hc4
    rw [show manyK 6 = 65536 from rfl]
    go_wp2
    go_ret
    exact ⟨ret_bool (by rw [HR.out]; simp; omega), hb4⟩
  · go_enter Try.func34, Try.ntmps34
    go_wp2_with fail
    refine (rsize_6 _).mono ?_
    rintro e w1 ⟨rfl, hc1⟩
    have hb1 := btr hb0 hc1
    rw [show sizeK 6 = 2 from rfl]
    go_wp2_with fail
    refine (rleast_6 _).mono ?_
    rintro e w2 ⟨rfl, hc2⟩
    have hb2 := btr hb1 hc2
    rw [show leastK 6 = 0 from rfl]
    go_wp2
    go_ret
    exact ⟨ret_bool (by rw [HR.out]; simp; omega), hb2⟩
set_option maxRecDepth 100000 in
set_option maxHeartbeats 1000000 in
theorem ris_7 (v : Int) (w : World) : Calls Try.prog 34 #[.int .i64 7, .int .i64 v] w fun e w' => e = .returned (.bool (isK 7 v)) ∧ Below w.heap.size w w' := by
  have hr := isK_range 7 v
  simp [leastK, manyK] at hr
  have HR := Lib.hid hr
  clear hr
  have hb0 := Below.refl w.heap.size w
  by_cases hv : 0 ≤ v
  · go_enter Try.func34, Try.ntmps34
    go_wp2_with fail
    refine (rsize_7 _).mono ?_
    rintro e w1 ⟨rfl, hc1⟩
    have hb1 := btr hb0 hc1
    rw [show sizeK 7 = 4 from rfl]
    go_wp2_with fail
    refine (rleast_7 _).mono ?_
    rintro e w2 ⟨rfl, hc2⟩
    have hb2 := btr hb1 hc2
    rw [show leastK 7 = 0 from rfl]
    go_wp2_with fail
    refine (rleast_7 _).mono ?_
    rintro e w3 ⟨rfl, hc3⟩
    have hb3 := btr hb2 hc3
    rw [show leastK 7 = 0 from rfl]
    go_wp2_with fail
    refine (rmany_7 _).mono ?_
    rintro e w4 ⟨rfl, hc4⟩
    have hb4 := btr hb3 hc4
    rw [show manyK 7 = 4294967296 from rfl]
    go_wp2
    go_ret
    exact ⟨ret_bool (by rw [HR.out]; simp; omega), hb4⟩
  · go_enter Try.func34, Try.ntmps34
    go_wp2_with fail
    refine (rsize_7 _).mono ?_
    rintro e w1 ⟨rfl, hc1⟩
    have hb1 := btr hb0 hc1
    rw [show sizeK 7 = 4 from rfl]
    go_wp2_with fail
    refine (rleast_7 _).mono ?_
    rintro e w2 ⟨rfl, hc2⟩
    have hb2 := btr hb1 hc2
    rw [show leastK 7 = 0 from rfl]
    go_wp2
    go_ret
    exact ⟨ret_bool (by rw [HR.out]; simp; omega), hb2⟩
set_option maxRecDepth 100000 in
set_option maxHeartbeats 1000000 in
theorem ris_out (k : Int) (hk : k < 1 ∨ 7 < k) (v : Int) (w : World) : Calls Try.prog 34 #[.int .i64 k, .int .i64 v] w fun e w' => e = .returned (.bool (isK 0 v)) ∧ Below w.heap.size w w' := by
  have hb0 := Below.refl w.heap.size w
  go_enter Try.func34, Try.ntmps34
  go_wp2_with fail
  refine (rsize_out k hk _).mono ?_
  rintro e w1 ⟨rfl, hc1⟩
  have hb1 := btr hb0 hc1
  rw [show sizeK 0 = 0 from rfl]
  go_wp2
  go_ret
  exact ⟨ret_bool (by simp [isK]), hb1⟩
theorem ris_any (k : Int) (v : Int) (w : World) : Calls Try.prog 34 #[.int .i64 k, .int .i64 v] w fun e w' => e = .returned (.bool (isK (kN k) v)) ∧ Below w.heap.size w w' := by
  rcases kN_cases k with rfl | rfl | rfl | rfl | rfl | rfl | rfl | ⟨hk, h0⟩
  · exact ris_1 v w
  · exact ris_2 v w
  · exact ris_3 v w
  · exact ris_4 v w
  · exact ris_5 v w
  · exact ris_6 v w
  · exact ris_7 v w
  · rw [h0]; exact ris_out k hk v w
set_option maxRecDepth 100000 in
set_option maxHeartbeats 1000000 in
theorem rwrap_1 (v : Int) (w : World) : Calls Try.prog 13 #[.int .i64 1, .int .i64 v] w fun e w' => e = .returned (.int .i64 (wrapK 1 v)) ∧ Below w.heap.size w w' := by
  have hb0 := Below.refl w.heap.size w
  by_cases hv : v = 0
  all_goals
    go_enter Try.func13, Try.ntmps13
    go_wp2_with fail
    refine (rsize_1 _).mono ?_
    rintro e w1 ⟨rfl, hc1⟩
    have hb1 := btr hb0 hc1
    rw [show sizeK 1 = 1 from rfl]
    go_wp2
    go_ret
    exact ⟨ret_int (by simp [wrapK, hv]), hb1⟩
set_option maxRecDepth 100000 in
set_option maxHeartbeats 1000000 in
theorem rwrap_2 (v : Int) (w : World) : Calls Try.prog 13 #[.int .i64 2, .int .i64 v] w fun e w' => e = .returned (.int .i64 (wrapK 2 v)) ∧ Below w.heap.size w w' := by
  have hb0 := Below.refl w.heap.size w
  obtain ⟨m, hm⟩ : ∃ m, v.tmod 256 = m := ⟨_, rfl⟩
  have hm1 := Int.tmod_lt_of_pos v (show (0 : Int) < 256 by decide)
  have hm2 := Int.lt_tmod_of_pos v (show (0 : Int) < 256 by decide)
  have hm3 := Int.mul_tdiv_add_tmod v 256
  have hw : wrapK 2 v = if 127 < (m + 256) % 256 then (m + 256) % 256 - 256 else (m + 256) % 256 := by
    simp only [wrapK]
    rw [← hm]
    split <;> omega
  rw [hm] at hm1 hm2 hm3
  have HW := Lib.hid hw
  clear hw hm3
  by_cases hv : 127 < (m + 256) % 256
  all_goals
    go_enter Try.func13, Try.ntmps13
    go_wp2_with fail
    refine (rsize_2 _).mono ?_
    rintro e w1 ⟨rfl, hc1⟩
    have hb1 := btr hb0 hc1
    rw [show sizeK 2 = 1 from rfl]
    go_wp2_with fail
    refine (rmany_2 _).mono ?_
    rintro e w2 ⟨rfl, hc2⟩
    have hb2 := btr hb1 hc2
    rw [show manyK 2 = 256 from rfl]
    go_wp2_with fail
    refine (rleast_2 _).mono ?_
    rintro e w3 ⟨rfl, hc3⟩
    have hb3 := btr hb2 hc3
    rw [show leastK 2 = -128 from rfl]
    go_wp2_with fail
    go_wp2
    go_ret
    exact ⟨ret_int (by rw [HW.out]; split <;> omega), hb3⟩
set_option maxRecDepth 100000 in
set_option maxHeartbeats 1000000 in
theorem rwrap_3 (v : Int) (w : World) : Calls Try.prog 13 #[.int .i64 3, .int .i64 v] w fun e w' => e = .returned (.int .i64 (wrapK 3 v)) ∧ Below w.heap.size w w' := by
  have hb0 := Below.refl w.heap.size w
  obtain ⟨m, hm⟩ : ∃ m, v.tmod 65536 = m := ⟨_, rfl⟩
  have hm1 := Int.tmod_lt_of_pos v (show (0 : Int) < 65536 by decide)
  have hm2 := Int.lt_tmod_of_pos v (show (0 : Int) < 65536 by decide)
  have hm3 := Int.mul_tdiv_add_tmod v 65536
  have hw : wrapK 3 v = if 32767 < (m + 65536) % 65536 then (m + 65536) % 65536 - 65536 else (m + 65536) % 65536 := by
    simp only [wrapK]
    rw [← hm]
    split <;> omega
  rw [hm] at hm1 hm2 hm3
  have HW := Lib.hid hw
  clear hw hm3
  by_cases hv : 32767 < (m + 65536) % 65536
  all_goals
    go_enter Try.func13, Try.ntmps13
    go_wp2_with fail
    refine (rsize_3 _).mono ?_
    rintro e w1 ⟨rfl, hc1⟩
    have hb1 := btr hb0 hc1
    rw [show sizeK 3 = 2 from rfl]
    go_wp2_with fail
    refine (rmany_3 _).mono ?_
    rintro e w2 ⟨rfl, hc2⟩
    have hb2 := btr hb1 hc2
    rw [show manyK 3 = 65536 from rfl]
    go_wp2_with fail
    refine (rleast_3 _).mono ?_
    rintro e w3 ⟨rfl, hc3⟩
    have hb3 := btr hb2 hc3
    rw [show leastK 3 = -32768 from rfl]
    go_wp2_with fail
    go_wp2
    go_ret
    exact ⟨ret_int (by rw [HW.out]; split <;> omega), hb3⟩
set_option maxRecDepth 100000 in
set_option maxHeartbeats 1000000 in
theorem rwrap_4 (v : Int) (w : World) : Calls Try.prog 13 #[.int .i64 4, .int .i64 v] w fun e w' => e = .returned (.int .i64 (wrapK 4 v)) ∧ Below w.heap.size w w' := by
  have hb0 := Below.refl w.heap.size w
  obtain ⟨m, hm⟩ : ∃ m, v.tmod 4294967296 = m := ⟨_, rfl⟩
  have hm1 := Int.tmod_lt_of_pos v (show (0 : Int) < 4294967296 by decide)
  have hm2 := Int.lt_tmod_of_pos v (show (0 : Int) < 4294967296 by decide)
  have hm3 := Int.mul_tdiv_add_tmod v 4294967296
  have hw : wrapK 4 v = if 2147483647 < (m + 4294967296) % 4294967296 then (m + 4294967296) % 4294967296 - 4294967296 else (m + 4294967296) % 4294967296 := by
    simp only [wrapK]
    rw [← hm]
    split <;> omega
  rw [hm] at hm1 hm2 hm3
  have HW := Lib.hid hw
  clear hw hm3
  by_cases hv : 2147483647 < (m + 4294967296) % 4294967296
  all_goals
    go_enter Try.func13, Try.ntmps13
    go_wp2_with fail
    refine (rsize_4 _).mono ?_
    rintro e w1 ⟨rfl, hc1⟩
    have hb1 := btr hb0 hc1
    rw [show sizeK 4 = 4 from rfl]
    go_wp2_with fail
    refine (rmany_4 _).mono ?_
    rintro e w2 ⟨rfl, hc2⟩
    have hb2 := btr hb1 hc2
    rw [show manyK 4 = 4294967296 from rfl]
    go_wp2_with fail
    refine (rleast_4 _).mono ?_
    rintro e w3 ⟨rfl, hc3⟩
    have hb3 := btr hb2 hc3
    rw [show leastK 4 = -2147483648 from rfl]
    go_wp2_with fail
    go_wp2
    go_ret
    exact ⟨ret_int (by rw [HW.out]; split <;> omega), hb3⟩
set_option maxRecDepth 100000 in
set_option maxHeartbeats 1000000 in
theorem rwrap_5 (v : Int) (w : World) : Calls Try.prog 13 #[.int .i64 5, .int .i64 v] w fun e w' => e = .returned (.int .i64 (wrapK 5 v)) ∧ Below w.heap.size w w' := by
  have hb0 := Below.refl w.heap.size w
  obtain ⟨m, hm⟩ : ∃ m, v.tmod 65536 = m := ⟨_, rfl⟩
  have hm1 := Int.tmod_lt_of_pos v (show (0 : Int) < 65536 by decide)
  have hm2 := Int.lt_tmod_of_pos v (show (0 : Int) < 65536 by decide)
  have hm3 := Int.mul_tdiv_add_tmod v 65536
  have hw : wrapK 5 v = if 65535 < (m + 65536) % 65536 then (m + 65536) % 65536 - 65536 else (m + 65536) % 65536 := by
    simp only [wrapK]
    rw [← hm]
    split <;> omega
  rw [hm] at hm1 hm2 hm3
  have HW := Lib.hid hw
  clear hw hm3
  have hv : ¬ 65535 < (m + 65536) % 65536 := by omega
  all_goals
    go_enter Try.func13, Try.ntmps13
    go_wp2_with fail
    refine (rsize_5 _).mono ?_
    rintro e w1 ⟨rfl, hc1⟩
    have hb1 := btr hb0 hc1
    rw [show sizeK 5 = 2 from rfl]
    go_wp2_with fail
    refine (rmany_5 _).mono ?_
    rintro e w2 ⟨rfl, hc2⟩
    have hb2 := btr hb1 hc2
    rw [show manyK 5 = 65536 from rfl]
    go_wp2_with fail
    refine (rleast_5 _).mono ?_
    rintro e w3 ⟨rfl, hc3⟩
    have hb3 := btr hb2 hc3
    rw [show leastK 5 = 0 from rfl]
    go_wp2_with fail
    go_wp2
    go_ret
    exact ⟨ret_int (by rw [HW.out]; split <;> omega), hb3⟩
set_option maxRecDepth 100000 in
set_option maxHeartbeats 1000000 in
theorem rwrap_6 (v : Int) (w : World) : Calls Try.prog 13 #[.int .i64 6, .int .i64 v] w fun e w' => e = .returned (.int .i64 (wrapK 6 v)) ∧ Below w.heap.size w w' := by
  have hb0 := Below.refl w.heap.size w
  obtain ⟨m, hm⟩ : ∃ m, v.tmod 65536 = m := ⟨_, rfl⟩
  have hm1 := Int.tmod_lt_of_pos v (show (0 : Int) < 65536 by decide)
  have hm2 := Int.lt_tmod_of_pos v (show (0 : Int) < 65536 by decide)
  have hm3 := Int.mul_tdiv_add_tmod v 65536
  have hw : wrapK 6 v = if 65535 < (m + 65536) % 65536 then (m + 65536) % 65536 - 65536 else (m + 65536) % 65536 := by
    simp only [wrapK]
    rw [← hm]
    split <;> omega
  rw [hm] at hm1 hm2 hm3
  have HW := Lib.hid hw
  clear hw hm3
  have hv : ¬ 65535 < (m + 65536) % 65536 := by omega
  all_goals
    go_enter Try.func13, Try.ntmps13
    go_wp2_with fail
    refine (rsize_6 _).mono ?_
    rintro e w1 ⟨rfl, hc1⟩
    have hb1 := btr hb0 hc1
    rw [show sizeK 6 = 2 from rfl]
    go_wp2_with fail
    refine (rmany_6 _).mono ?_
    rintro e w2 ⟨rfl, hc2⟩
    have hb2 := btr hb1 hc2
    rw [show manyK 6 = 65536 from rfl]
    go_wp2_with fail
    refine (rleast_6 _).mono ?_
    rintro e w3 ⟨rfl, hc3⟩
    have hb3 := btr hb2 hc3
    rw [show leastK 6 = 0 from rfl]
    go_wp2_with fail
    go_wp2
    go_ret
    exact ⟨ret_int (by rw [HW.out]; split <;> omega), hb3⟩
set_option maxRecDepth 100000 in
set_option maxHeartbeats 1000000 in
theorem rwrap_7 (v : Int) (w : World) : Calls Try.prog 13 #[.int .i64 7, .int .i64 v] w fun e w' => e = .returned (.int .i64 (wrapK 7 v)) ∧ Below w.heap.size w w' := by
  have hb0 := Below.refl w.heap.size w
  obtain ⟨m, hm⟩ : ∃ m, v.tmod 4294967296 = m := ⟨_, rfl⟩
  have hm1 := Int.tmod_lt_of_pos v (show (0 : Int) < 4294967296 by decide)
  have hm2 := Int.lt_tmod_of_pos v (show (0 : Int) < 4294967296 by decide)
  have hm3 := Int.mul_tdiv_add_tmod v 4294967296
  have hw : wrapK 7 v = if 4294967295 < (m + 4294967296) % 4294967296 then (m + 4294967296) % 4294967296 - 4294967296 else (m + 4294967296) % 4294967296 := by
    simp only [wrapK]
    rw [← hm]
    split <;> omega
  rw [hm] at hm1 hm2 hm3
  have HW := Lib.hid hw
  clear hw hm3
  have hv : ¬ 4294967295 < (m + 4294967296) % 4294967296 := by omega
  all_goals
    go_enter Try.func13, Try.ntmps13
    go_wp2_with fail
    refine (rsize_7 _).mono ?_
    rintro e w1 ⟨rfl, hc1⟩
    have hb1 := btr hb0 hc1
    rw [show sizeK 7 = 4 from rfl]
    go_wp2_with fail
    refine (rmany_7 _).mono ?_
    rintro e w2 ⟨rfl, hc2⟩
    have hb2 := btr hb1 hc2
    rw [show manyK 7 = 4294967296 from rfl]
    go_wp2_with fail
    refine (rleast_7 _).mono ?_
    rintro e w3 ⟨rfl, hc3⟩
    have hb3 := btr hb2 hc3
    rw [show leastK 7 = 0 from rfl]
    go_wp2_with fail
    go_wp2
    go_ret
    exact ⟨ret_int (by rw [HW.out]; split <;> omega), hb3⟩
set_option maxRecDepth 100000 in
set_option maxHeartbeats 1000000 in
theorem rwrap_out (k : Int) (hk : k < 1 ∨ 7 < k) (v : Int) (w : World) : Calls Try.prog 13 #[.int .i64 k, .int .i64 v] w fun e w' => e = .returned (.int .i64 (wrapK 0 v)) ∧ Below w.heap.size w w' := by
  have hb0 := Below.refl w.heap.size w
  go_enter Try.func13, Try.ntmps13
  go_wp2_with fail
  refine (rsize_out k hk _).mono ?_
  rintro e w1 ⟨rfl, hc1⟩
  have hb1 := btr hb0 hc1
  rw [show sizeK 0 = 0 from rfl]
  go_wp2
  go_ret
  exact ⟨rfl, hb1⟩
theorem rwrap_any (k : Int) (v : Int) (w : World) : Calls Try.prog 13 #[.int .i64 k, .int .i64 v] w fun e w' => e = .returned (.int .i64 (wrapK (kN k) v)) ∧ Below w.heap.size w w' := by
  rcases kN_cases k with rfl | rfl | rfl | rfl | rfl | rfl | rfl | ⟨hk, h0⟩
  · exact rwrap_1 v w
  · exact rwrap_2 v w
  · exact rwrap_3 v w
  · exact rwrap_4 v w
  · exact rwrap_5 v w
  · exact rwrap_6 v w
  · exact rwrap_7 v w
  · rw [h0]; exact rwrap_out k hk v w
end Go.Proofs.Ytclbmgnpgjhlhaa
end
/-! The document's May and Not (made by wip/mk_iecref.py). -/
section
namespace Go.Proofs.Ytclbmgnpgjhlhaa
open Go.RowKit
set_option maxRecDepth 100000 in
set_option maxHeartbeats 1000000 in
theorem rmay_1 (op : Int) (w : World) : Calls Try.prog 19 #[.int .i64 op, .int .i64 1] w fun e w' => e = .returned (.bool (mayK op 1)) ∧ Below w.heap.size w w' := by
  rcases (by omega : op < 7 ∨ (7 ≤ op ∧ op ≤ 13) ∨ (14 ≤ op ∧ op ≤ 18) ∨ (19 ≤ op ∧ op ≤ 24) ∨ 24 < op) with ho | ⟨h1, h2⟩ | ⟨h1, h2⟩ | ⟨h1, h2⟩ | ho
  · have hm : mayK op 1 = false := by rw [mayK, if_neg (by decide), if_neg (by omega), if_neg (by omega)]; simp; omega
    rw [hm]
    clear hm
    have q0 : decide (14 ≤ op) = false := by simp; omega
    have q1 : decide (op ≤ 18) = true := by simp; omega
    have q2 : decide (7 ≤ op) = false := by simp; omega
    have q3 : decide (op ≤ 13) = true := by simp; omega
    have q4 : decide (19 ≤ op) = false := by simp; omega
    have q5 : decide (op ≤ 24) = true := by simp; omega
    have hb0 := Below.refl w.heap.size w
    go_enter Try.func19, Try.ntmps19
    go_wp2_with fail
    refine (rsize_1 _).mono ?_
    rintro e w1 ⟨rfl, hc1⟩
    have hb1 := btr hb0 hc1
    rw [show sizeK 1 = 1 from rfl]
    go_wp2
    go_ret
    exact ⟨rfl, hb1⟩
  · have hm : mayK op 1 = true := by rw [mayK, if_neg (by decide), if_pos ⟨by omega, by omega⟩]; rfl
    rw [hm]
    clear hm
    have q0 : decide (14 ≤ op) = false := by simp; omega
    have q1 : decide (op ≤ 18) = true := by simp; omega
    have q2 : decide (7 ≤ op) = true := by simp; omega
    have q3 : decide (op ≤ 13) = true := by simp; omega
    have q4 : decide (19 ≤ op) = false := by simp; omega
    have q5 : decide (op ≤ 24) = true := by simp; omega
    have hb0 := Below.refl w.heap.size w
    go_enter Try.func19, Try.ntmps19
    go_wp2_with fail
    refine (rsize_1 _).mono ?_
    rintro e w1 ⟨rfl, hc1⟩
    have hb1 := btr hb0 hc1
    rw [show sizeK 1 = 1 from rfl]
    go_wp2
    go_ret
    exact ⟨rfl, hb1⟩
  · have hm : mayK op 1 = false := by rw [mayK, if_neg (by decide), if_neg (by omega), if_pos ⟨by omega, by omega⟩]; rfl
    rw [hm]
    clear hm
    have q0 : decide (14 ≤ op) = true := by simp; omega
    have q1 : decide (op ≤ 18) = true := by simp; omega
    have q2 : decide (7 ≤ op) = true := by simp; omega
    have q3 : decide (op ≤ 13) = false := by simp; omega
    have q4 : decide (19 ≤ op) = false := by simp; omega
    have q5 : decide (op ≤ 24) = true := by simp; omega
    have hb0 := Below.refl w.heap.size w
    go_enter Try.func19, Try.ntmps19
    go_wp2_with fail
    refine (rsize_1 _).mono ?_
    rintro e w1 ⟨rfl, hc1⟩
    have hb1 := btr hb0 hc1
    rw [show sizeK 1 = 1 from rfl]
    go_wp2
    go_ret
    exact ⟨rfl, hb1⟩
  · have hm : mayK op 1 = true := by rw [mayK, if_neg (by decide), if_neg (by omega), if_neg (by omega)]; simp; omega
    rw [hm]
    clear hm
    have q0 : decide (14 ≤ op) = true := by simp; omega
    have q1 : decide (op ≤ 18) = false := by simp; omega
    have q2 : decide (7 ≤ op) = true := by simp; omega
    have q3 : decide (op ≤ 13) = false := by simp; omega
    have q4 : decide (19 ≤ op) = true := by simp; omega
    have q5 : decide (op ≤ 24) = true := by simp; omega
    have hb0 := Below.refl w.heap.size w
    go_enter Try.func19, Try.ntmps19
    go_wp2_with fail
    refine (rsize_1 _).mono ?_
    rintro e w1 ⟨rfl, hc1⟩
    have hb1 := btr hb0 hc1
    rw [show sizeK 1 = 1 from rfl]
    go_wp2
    go_ret
    exact ⟨rfl, hb1⟩
  · have hm : mayK op 1 = false := by rw [mayK, if_neg (by decide), if_neg (by omega), if_neg (by omega)]; simp; omega
    rw [hm]
    clear hm
    have q0 : decide (14 ≤ op) = true := by simp; omega
    have q1 : decide (op ≤ 18) = false := by simp; omega
    have q2 : decide (7 ≤ op) = true := by simp; omega
    have q3 : decide (op ≤ 13) = false := by simp; omega
    have q4 : decide (19 ≤ op) = true := by simp; omega
    have q5 : decide (op ≤ 24) = false := by simp; omega
    have hb0 := Below.refl w.heap.size w
    go_enter Try.func19, Try.ntmps19
    go_wp2_with fail
    refine (rsize_1 _).mono ?_
    rintro e w1 ⟨rfl, hc1⟩
    have hb1 := btr hb0 hc1
    rw [show sizeK 1 = 1 from rfl]
    go_wp2
    go_ret
    exact ⟨rfl, hb1⟩
set_option maxRecDepth 100000 in
set_option maxHeartbeats 1000000 in
theorem rmay_2 (op : Int) (w : World) : Calls Try.prog 19 #[.int .i64 op, .int .i64 2] w fun e w' => e = .returned (.bool (mayK op 2)) ∧ Below w.heap.size w w' := by
  rcases (by omega : op < 7 ∨ (7 ≤ op ∧ op ≤ 13) ∨ (14 ≤ op ∧ op ≤ 18) ∨ (19 ≤ op ∧ op ≤ 24) ∨ 24 < op) with ho | ⟨h1, h2⟩ | ⟨h1, h2⟩ | ⟨h1, h2⟩ | ho
  · have hm : mayK op 2 = false := by rw [mayK, if_neg (by decide), if_neg (by omega), if_neg (by omega)]; simp; omega
    rw [hm]
    clear hm
    have q0 : decide (14 ≤ op) = false := by simp; omega
    have q1 : decide (op ≤ 18) = true := by simp; omega
    have q2 : decide (7 ≤ op) = false := by simp; omega
    have q3 : decide (op ≤ 13) = true := by simp; omega
    have q4 : decide (19 ≤ op) = false := by simp; omega
    have q5 : decide (op ≤ 24) = true := by simp; omega
    have hb0 := Below.refl w.heap.size w
    go_enter Try.func19, Try.ntmps19
    go_wp2_with fail
    refine (rsize_2 _).mono ?_
    rintro e w1 ⟨rfl, hc1⟩
    have hb1 := btr hb0 hc1
    rw [show sizeK 2 = 1 from rfl]
    go_wp2
    go_ret
    exact ⟨rfl, hb1⟩
  · have hm : mayK op 2 = false := by rw [mayK, if_neg (by decide), if_pos ⟨by omega, by omega⟩]; rfl
    rw [hm]
    clear hm
    have q0 : decide (14 ≤ op) = false := by simp; omega
    have q1 : decide (op ≤ 18) = true := by simp; omega
    have q2 : decide (7 ≤ op) = true := by simp; omega
    have q3 : decide (op ≤ 13) = true := by simp; omega
    have q4 : decide (19 ≤ op) = false := by simp; omega
    have q5 : decide (op ≤ 24) = true := by simp; omega
    have hb0 := Below.refl w.heap.size w
    go_enter Try.func19, Try.ntmps19
    go_wp2_with fail
    refine (rsize_2 _).mono ?_
    rintro e w1 ⟨rfl, hc1⟩
    have hb1 := btr hb0 hc1
    rw [show sizeK 2 = 1 from rfl]
    go_wp2
    go_ret
    exact ⟨rfl, hb1⟩
  · have hm : mayK op 2 = true := by rw [mayK, if_neg (by decide), if_neg (by omega), if_pos ⟨by omega, by omega⟩]; rfl
    rw [hm]
    clear hm
    have q0 : decide (14 ≤ op) = true := by simp; omega
    have q1 : decide (op ≤ 18) = true := by simp; omega
    have q2 : decide (7 ≤ op) = true := by simp; omega
    have q3 : decide (op ≤ 13) = false := by simp; omega
    have q4 : decide (19 ≤ op) = false := by simp; omega
    have q5 : decide (op ≤ 24) = true := by simp; omega
    have hb0 := Below.refl w.heap.size w
    go_enter Try.func19, Try.ntmps19
    go_wp2_with fail
    refine (rsize_2 _).mono ?_
    rintro e w1 ⟨rfl, hc1⟩
    have hb1 := btr hb0 hc1
    rw [show sizeK 2 = 1 from rfl]
    go_wp2
    go_ret
    exact ⟨rfl, hb1⟩
  · have hm : mayK op 2 = true := by rw [mayK, if_neg (by decide), if_neg (by omega), if_neg (by omega)]; simp; omega
    rw [hm]
    clear hm
    have q0 : decide (14 ≤ op) = true := by simp; omega
    have q1 : decide (op ≤ 18) = false := by simp; omega
    have q2 : decide (7 ≤ op) = true := by simp; omega
    have q3 : decide (op ≤ 13) = false := by simp; omega
    have q4 : decide (19 ≤ op) = true := by simp; omega
    have q5 : decide (op ≤ 24) = true := by simp; omega
    have hb0 := Below.refl w.heap.size w
    go_enter Try.func19, Try.ntmps19
    go_wp2_with fail
    refine (rsize_2 _).mono ?_
    rintro e w1 ⟨rfl, hc1⟩
    have hb1 := btr hb0 hc1
    rw [show sizeK 2 = 1 from rfl]
    go_wp2
    go_ret
    exact ⟨rfl, hb1⟩
  · have hm : mayK op 2 = false := by rw [mayK, if_neg (by decide), if_neg (by omega), if_neg (by omega)]; simp; omega
    rw [hm]
    clear hm
    have q0 : decide (14 ≤ op) = true := by simp; omega
    have q1 : decide (op ≤ 18) = false := by simp; omega
    have q2 : decide (7 ≤ op) = true := by simp; omega
    have q3 : decide (op ≤ 13) = false := by simp; omega
    have q4 : decide (19 ≤ op) = true := by simp; omega
    have q5 : decide (op ≤ 24) = false := by simp; omega
    have hb0 := Below.refl w.heap.size w
    go_enter Try.func19, Try.ntmps19
    go_wp2_with fail
    refine (rsize_2 _).mono ?_
    rintro e w1 ⟨rfl, hc1⟩
    have hb1 := btr hb0 hc1
    rw [show sizeK 2 = 1 from rfl]
    go_wp2
    go_ret
    exact ⟨rfl, hb1⟩
set_option maxRecDepth 100000 in
set_option maxHeartbeats 1000000 in
theorem rmay_3 (op : Int) (w : World) : Calls Try.prog 19 #[.int .i64 op, .int .i64 3] w fun e w' => e = .returned (.bool (mayK op 3)) ∧ Below w.heap.size w w' := by
  rcases (by omega : op < 7 ∨ (7 ≤ op ∧ op ≤ 13) ∨ (14 ≤ op ∧ op ≤ 18) ∨ (19 ≤ op ∧ op ≤ 24) ∨ 24 < op) with ho | ⟨h1, h2⟩ | ⟨h1, h2⟩ | ⟨h1, h2⟩ | ho
  · have hm : mayK op 3 = false := by rw [mayK, if_neg (by decide), if_neg (by omega), if_neg (by omega)]; simp; omega
    rw [hm]
    clear hm
    have q0 : decide (14 ≤ op) = false := by simp; omega
    have q1 : decide (op ≤ 18) = true := by simp; omega
    have q2 : decide (7 ≤ op) = false := by simp; omega
    have q3 : decide (op ≤ 13) = true := by simp; omega
    have q4 : decide (19 ≤ op) = false := by simp; omega
    have q5 : decide (op ≤ 24) = true := by simp; omega
    have hb0 := Below.refl w.heap.size w
    go_enter Try.func19, Try.ntmps19
    go_wp2_with fail
    refine (rsize_3 _).mono ?_
    rintro e w1 ⟨rfl, hc1⟩
    have hb1 := btr hb0 hc1
    rw [show sizeK 3 = 2 from rfl]
    go_wp2
    go_ret
    exact ⟨rfl, hb1⟩
  · have hm : mayK op 3 = false := by rw [mayK, if_neg (by decide), if_pos ⟨by omega, by omega⟩]; rfl
    rw [hm]
    clear hm
    have q0 : decide (14 ≤ op) = false := by simp; omega
    have q1 : decide (op ≤ 18) = true := by simp; omega
    have q2 : decide (7 ≤ op) = true := by simp; omega
    have q3 : decide (op ≤ 13) = true := by simp; omega
    have q4 : decide (19 ≤ op) = false := by simp; omega
    have q5 : decide (op ≤ 24) = true := by simp; omega
    have hb0 := Below.refl w.heap.size w
    go_enter Try.func19, Try.ntmps19
    go_wp2_with fail
    refine (rsize_3 _).mono ?_
    rintro e w1 ⟨rfl, hc1⟩
    have hb1 := btr hb0 hc1
    rw [show sizeK 3 = 2 from rfl]
    go_wp2
    go_ret
    exact ⟨rfl, hb1⟩
  · have hm : mayK op 3 = true := by rw [mayK, if_neg (by decide), if_neg (by omega), if_pos ⟨by omega, by omega⟩]; rfl
    rw [hm]
    clear hm
    have q0 : decide (14 ≤ op) = true := by simp; omega
    have q1 : decide (op ≤ 18) = true := by simp; omega
    have q2 : decide (7 ≤ op) = true := by simp; omega
    have q3 : decide (op ≤ 13) = false := by simp; omega
    have q4 : decide (19 ≤ op) = false := by simp; omega
    have q5 : decide (op ≤ 24) = true := by simp; omega
    have hb0 := Below.refl w.heap.size w
    go_enter Try.func19, Try.ntmps19
    go_wp2_with fail
    refine (rsize_3 _).mono ?_
    rintro e w1 ⟨rfl, hc1⟩
    have hb1 := btr hb0 hc1
    rw [show sizeK 3 = 2 from rfl]
    go_wp2
    go_ret
    exact ⟨rfl, hb1⟩
  · have hm : mayK op 3 = true := by rw [mayK, if_neg (by decide), if_neg (by omega), if_neg (by omega)]; simp; omega
    rw [hm]
    clear hm
    have q0 : decide (14 ≤ op) = true := by simp; omega
    have q1 : decide (op ≤ 18) = false := by simp; omega
    have q2 : decide (7 ≤ op) = true := by simp; omega
    have q3 : decide (op ≤ 13) = false := by simp; omega
    have q4 : decide (19 ≤ op) = true := by simp; omega
    have q5 : decide (op ≤ 24) = true := by simp; omega
    have hb0 := Below.refl w.heap.size w
    go_enter Try.func19, Try.ntmps19
    go_wp2_with fail
    refine (rsize_3 _).mono ?_
    rintro e w1 ⟨rfl, hc1⟩
    have hb1 := btr hb0 hc1
    rw [show sizeK 3 = 2 from rfl]
    go_wp2
    go_ret
    exact ⟨rfl, hb1⟩
  · have hm : mayK op 3 = false := by rw [mayK, if_neg (by decide), if_neg (by omega), if_neg (by omega)]; simp; omega
    rw [hm]
    clear hm
    have q0 : decide (14 ≤ op) = true := by simp; omega
    have q1 : decide (op ≤ 18) = false := by simp; omega
    have q2 : decide (7 ≤ op) = true := by simp; omega
    have q3 : decide (op ≤ 13) = false := by simp; omega
    have q4 : decide (19 ≤ op) = true := by simp; omega
    have q5 : decide (op ≤ 24) = false := by simp; omega
    have hb0 := Below.refl w.heap.size w
    go_enter Try.func19, Try.ntmps19
    go_wp2_with fail
    refine (rsize_3 _).mono ?_
    rintro e w1 ⟨rfl, hc1⟩
    have hb1 := btr hb0 hc1
    rw [show sizeK 3 = 2 from rfl]
    go_wp2
    go_ret
    exact ⟨rfl, hb1⟩
set_option maxRecDepth 100000 in
set_option maxHeartbeats 1000000 in
theorem rmay_4 (op : Int) (w : World) : Calls Try.prog 19 #[.int .i64 op, .int .i64 4] w fun e w' => e = .returned (.bool (mayK op 4)) ∧ Below w.heap.size w w' := by
  rcases (by omega : op < 7 ∨ (7 ≤ op ∧ op ≤ 13) ∨ (14 ≤ op ∧ op ≤ 18) ∨ (19 ≤ op ∧ op ≤ 24) ∨ 24 < op) with ho | ⟨h1, h2⟩ | ⟨h1, h2⟩ | ⟨h1, h2⟩ | ho
  · have hm : mayK op 4 = false := by rw [mayK, if_neg (by decide), if_neg (by omega), if_neg (by omega)]; simp; omega
    rw [hm]
    clear hm
    have q0 : decide (14 ≤ op) = false := by simp; omega
    have q1 : decide (op ≤ 18) = true := by simp; omega
    have q2 : decide (7 ≤ op) = false := by simp; omega
    have q3 : decide (op ≤ 13) = true := by simp; omega
    have q4 : decide (19 ≤ op) = false := by simp; omega
    have q5 : decide (op ≤ 24) = true := by simp; omega
    have hb0 := Below.refl w.heap.size w
    go_enter Try.func19, Try.ntmps19
    go_wp2_with fail
    refine (rsize_4 _).mono ?_
    rintro e w1 ⟨rfl, hc1⟩
    have hb1 := btr hb0 hc1
    rw [show sizeK 4 = 4 from rfl]
    go_wp2
    go_ret
    exact ⟨rfl, hb1⟩
  · have hm : mayK op 4 = false := by rw [mayK, if_neg (by decide), if_pos ⟨by omega, by omega⟩]; rfl
    rw [hm]
    clear hm
    have q0 : decide (14 ≤ op) = false := by simp; omega
    have q1 : decide (op ≤ 18) = true := by simp; omega
    have q2 : decide (7 ≤ op) = true := by simp; omega
    have q3 : decide (op ≤ 13) = true := by simp; omega
    have q4 : decide (19 ≤ op) = false := by simp; omega
    have q5 : decide (op ≤ 24) = true := by simp; omega
    have hb0 := Below.refl w.heap.size w
    go_enter Try.func19, Try.ntmps19
    go_wp2_with fail
    refine (rsize_4 _).mono ?_
    rintro e w1 ⟨rfl, hc1⟩
    have hb1 := btr hb0 hc1
    rw [show sizeK 4 = 4 from rfl]
    go_wp2
    go_ret
    exact ⟨rfl, hb1⟩
  · have hm : mayK op 4 = true := by rw [mayK, if_neg (by decide), if_neg (by omega), if_pos ⟨by omega, by omega⟩]; rfl
    rw [hm]
    clear hm
    have q0 : decide (14 ≤ op) = true := by simp; omega
    have q1 : decide (op ≤ 18) = true := by simp; omega
    have q2 : decide (7 ≤ op) = true := by simp; omega
    have q3 : decide (op ≤ 13) = false := by simp; omega
    have q4 : decide (19 ≤ op) = false := by simp; omega
    have q5 : decide (op ≤ 24) = true := by simp; omega
    have hb0 := Below.refl w.heap.size w
    go_enter Try.func19, Try.ntmps19
    go_wp2_with fail
    refine (rsize_4 _).mono ?_
    rintro e w1 ⟨rfl, hc1⟩
    have hb1 := btr hb0 hc1
    rw [show sizeK 4 = 4 from rfl]
    go_wp2
    go_ret
    exact ⟨rfl, hb1⟩
  · have hm : mayK op 4 = true := by rw [mayK, if_neg (by decide), if_neg (by omega), if_neg (by omega)]; simp; omega
    rw [hm]
    clear hm
    have q0 : decide (14 ≤ op) = true := by simp; omega
    have q1 : decide (op ≤ 18) = false := by simp; omega
    have q2 : decide (7 ≤ op) = true := by simp; omega
    have q3 : decide (op ≤ 13) = false := by simp; omega
    have q4 : decide (19 ≤ op) = true := by simp; omega
    have q5 : decide (op ≤ 24) = true := by simp; omega
    have hb0 := Below.refl w.heap.size w
    go_enter Try.func19, Try.ntmps19
    go_wp2_with fail
    refine (rsize_4 _).mono ?_
    rintro e w1 ⟨rfl, hc1⟩
    have hb1 := btr hb0 hc1
    rw [show sizeK 4 = 4 from rfl]
    go_wp2
    go_ret
    exact ⟨rfl, hb1⟩
  · have hm : mayK op 4 = false := by rw [mayK, if_neg (by decide), if_neg (by omega), if_neg (by omega)]; simp; omega
    rw [hm]
    clear hm
    have q0 : decide (14 ≤ op) = true := by simp; omega
    have q1 : decide (op ≤ 18) = false := by simp; omega
    have q2 : decide (7 ≤ op) = true := by simp; omega
    have q3 : decide (op ≤ 13) = false := by simp; omega
    have q4 : decide (19 ≤ op) = true := by simp; omega
    have q5 : decide (op ≤ 24) = false := by simp; omega
    have hb0 := Below.refl w.heap.size w
    go_enter Try.func19, Try.ntmps19
    go_wp2_with fail
    refine (rsize_4 _).mono ?_
    rintro e w1 ⟨rfl, hc1⟩
    have hb1 := btr hb0 hc1
    rw [show sizeK 4 = 4 from rfl]
    go_wp2
    go_ret
    exact ⟨rfl, hb1⟩
set_option maxRecDepth 100000 in
set_option maxHeartbeats 1000000 in
theorem rmay_5 (op : Int) (w : World) : Calls Try.prog 19 #[.int .i64 op, .int .i64 5] w fun e w' => e = .returned (.bool (mayK op 5)) ∧ Below w.heap.size w w' := by
  rcases (by omega : op < 7 ∨ (7 ≤ op ∧ op ≤ 13) ∨ (14 ≤ op ∧ op ≤ 18) ∨ (19 ≤ op ∧ op ≤ 24) ∨ 24 < op) with ho | ⟨h1, h2⟩ | ⟨h1, h2⟩ | ⟨h1, h2⟩ | ho
  · have hm : mayK op 5 = false := by rw [mayK, if_neg (by decide), if_neg (by omega), if_neg (by omega)]; simp; omega
    rw [hm]
    clear hm
    have q0 : decide (14 ≤ op) = false := by simp; omega
    have q1 : decide (op ≤ 18) = true := by simp; omega
    have q2 : decide (7 ≤ op) = false := by simp; omega
    have q3 : decide (op ≤ 13) = true := by simp; omega
    have q4 : decide (19 ≤ op) = false := by simp; omega
    have q5 : decide (op ≤ 24) = true := by simp; omega
    have hb0 := Below.refl w.heap.size w
    go_enter Try.func19, Try.ntmps19
    go_wp2_with fail
    refine (rsize_5 _).mono ?_
    rintro e w1 ⟨rfl, hc1⟩
    have hb1 := btr hb0 hc1
    rw [show sizeK 5 = 2 from rfl]
    go_wp2
    go_ret
    exact ⟨rfl, hb1⟩
  · have hm : mayK op 5 = false := by rw [mayK, if_neg (by decide), if_pos ⟨by omega, by omega⟩]; rfl
    rw [hm]
    clear hm
    have q0 : decide (14 ≤ op) = false := by simp; omega
    have q1 : decide (op ≤ 18) = true := by simp; omega
    have q2 : decide (7 ≤ op) = true := by simp; omega
    have q3 : decide (op ≤ 13) = true := by simp; omega
    have q4 : decide (19 ≤ op) = false := by simp; omega
    have q5 : decide (op ≤ 24) = true := by simp; omega
    have hb0 := Below.refl w.heap.size w
    go_enter Try.func19, Try.ntmps19
    go_wp2_with fail
    refine (rsize_5 _).mono ?_
    rintro e w1 ⟨rfl, hc1⟩
    have hb1 := btr hb0 hc1
    rw [show sizeK 5 = 2 from rfl]
    go_wp2
    go_ret
    exact ⟨rfl, hb1⟩
  · have hm : mayK op 5 = true := by rw [mayK, if_neg (by decide), if_neg (by omega), if_pos ⟨by omega, by omega⟩]; rfl
    rw [hm]
    clear hm
    have q0 : decide (14 ≤ op) = true := by simp; omega
    have q1 : decide (op ≤ 18) = true := by simp; omega
    have q2 : decide (7 ≤ op) = true := by simp; omega
    have q3 : decide (op ≤ 13) = false := by simp; omega
    have q4 : decide (19 ≤ op) = false := by simp; omega
    have q5 : decide (op ≤ 24) = true := by simp; omega
    have hb0 := Below.refl w.heap.size w
    go_enter Try.func19, Try.ntmps19
    go_wp2_with fail
    refine (rsize_5 _).mono ?_
    rintro e w1 ⟨rfl, hc1⟩
    have hb1 := btr hb0 hc1
    rw [show sizeK 5 = 2 from rfl]
    go_wp2
    go_ret
    exact ⟨rfl, hb1⟩
  · have hm : mayK op 5 = true := by rw [mayK, if_neg (by decide), if_neg (by omega), if_neg (by omega)]; simp; omega
    rw [hm]
    clear hm
    have q0 : decide (14 ≤ op) = true := by simp; omega
    have q1 : decide (op ≤ 18) = false := by simp; omega
    have q2 : decide (7 ≤ op) = true := by simp; omega
    have q3 : decide (op ≤ 13) = false := by simp; omega
    have q4 : decide (19 ≤ op) = true := by simp; omega
    have q5 : decide (op ≤ 24) = true := by simp; omega
    have hb0 := Below.refl w.heap.size w
    go_enter Try.func19, Try.ntmps19
    go_wp2_with fail
    refine (rsize_5 _).mono ?_
    rintro e w1 ⟨rfl, hc1⟩
    have hb1 := btr hb0 hc1
    rw [show sizeK 5 = 2 from rfl]
    go_wp2
    go_ret
    exact ⟨rfl, hb1⟩
  · have hm : mayK op 5 = false := by rw [mayK, if_neg (by decide), if_neg (by omega), if_neg (by omega)]; simp; omega
    rw [hm]
    clear hm
    have q0 : decide (14 ≤ op) = true := by simp; omega
    have q1 : decide (op ≤ 18) = false := by simp; omega
    have q2 : decide (7 ≤ op) = true := by simp; omega
    have q3 : decide (op ≤ 13) = false := by simp; omega
    have q4 : decide (19 ≤ op) = true := by simp; omega
    have q5 : decide (op ≤ 24) = false := by simp; omega
    have hb0 := Below.refl w.heap.size w
    go_enter Try.func19, Try.ntmps19
    go_wp2_with fail
    refine (rsize_5 _).mono ?_
    rintro e w1 ⟨rfl, hc1⟩
    have hb1 := btr hb0 hc1
    rw [show sizeK 5 = 2 from rfl]
    go_wp2
    go_ret
    exact ⟨rfl, hb1⟩
set_option maxRecDepth 100000 in
set_option maxHeartbeats 1000000 in
theorem rmay_6 (op : Int) (w : World) : Calls Try.prog 19 #[.int .i64 op, .int .i64 6] w fun e w' => e = .returned (.bool (mayK op 6)) ∧ Below w.heap.size w w' := by
  rcases (by omega : op < 7 ∨ (7 ≤ op ∧ op ≤ 13) ∨ (14 ≤ op ∧ op ≤ 18) ∨ (19 ≤ op ∧ op ≤ 24) ∨ 24 < op) with ho | ⟨h1, h2⟩ | ⟨h1, h2⟩ | ⟨h1, h2⟩ | ho
  · have hm : mayK op 6 = false := by rw [mayK, if_neg (by decide), if_neg (by omega), if_neg (by omega)]; simp; omega
    rw [hm]
    clear hm
    have q0 : decide (14 ≤ op) = false := by simp; omega
    have q1 : decide (op ≤ 18) = true := by simp; omega
    have q2 : decide (7 ≤ op) = false := by simp; omega
    have q3 : decide (op ≤ 13) = true := by simp; omega
    have q4 : decide (19 ≤ op) = false := by simp; omega
    have q5 : decide (op ≤ 24) = true := by simp; omega
    have hb0 := Below.refl w.heap.size w
    go_enter Try.func19, Try.ntmps19
    go_wp2_with fail
    refine (rsize_6 _).mono ?_
    rintro e w1 ⟨rfl, hc1⟩
    have hb1 := btr hb0 hc1
    rw [show sizeK 6 = 2 from rfl]
    go_wp2
    go_ret
    exact ⟨rfl, hb1⟩
  · have hm : mayK op 6 = true := by rw [mayK, if_neg (by decide), if_pos ⟨by omega, by omega⟩]; rfl
    rw [hm]
    clear hm
    have q0 : decide (14 ≤ op) = false := by simp; omega
    have q1 : decide (op ≤ 18) = true := by simp; omega
    have q2 : decide (7 ≤ op) = true := by simp; omega
    have q3 : decide (op ≤ 13) = true := by simp; omega
    have q4 : decide (19 ≤ op) = false := by simp; omega
    have q5 : decide (op ≤ 24) = true := by simp; omega
    have hb0 := Below.refl w.heap.size w
    go_enter Try.func19, Try.ntmps19
    go_wp2_with fail
    refine (rsize_6 _).mono ?_
    rintro e w1 ⟨rfl, hc1⟩
    have hb1 := btr hb0 hc1
    rw [show sizeK 6 = 2 from rfl]
    go_wp2
    go_ret
    exact ⟨rfl, hb1⟩
  · have hm : mayK op 6 = false := by rw [mayK, if_neg (by decide), if_neg (by omega), if_pos ⟨by omega, by omega⟩]; rfl
    rw [hm]
    clear hm
    have q0 : decide (14 ≤ op) = true := by simp; omega
    have q1 : decide (op ≤ 18) = true := by simp; omega
    have q2 : decide (7 ≤ op) = true := by simp; omega
    have q3 : decide (op ≤ 13) = false := by simp; omega
    have q4 : decide (19 ≤ op) = false := by simp; omega
    have q5 : decide (op ≤ 24) = true := by simp; omega
    have hb0 := Below.refl w.heap.size w
    go_enter Try.func19, Try.ntmps19
    go_wp2_with fail
    refine (rsize_6 _).mono ?_
    rintro e w1 ⟨rfl, hc1⟩
    have hb1 := btr hb0 hc1
    rw [show sizeK 6 = 2 from rfl]
    go_wp2
    go_ret
    exact ⟨rfl, hb1⟩
  · have hm : mayK op 6 = true := by rw [mayK, if_neg (by decide), if_neg (by omega), if_neg (by omega)]; simp; omega
    rw [hm]
    clear hm
    have q0 : decide (14 ≤ op) = true := by simp; omega
    have q1 : decide (op ≤ 18) = false := by simp; omega
    have q2 : decide (7 ≤ op) = true := by simp; omega
    have q3 : decide (op ≤ 13) = false := by simp; omega
    have q4 : decide (19 ≤ op) = true := by simp; omega
    have q5 : decide (op ≤ 24) = true := by simp; omega
    have hb0 := Below.refl w.heap.size w
    go_enter Try.func19, Try.ntmps19
    go_wp2_with fail
    refine (rsize_6 _).mono ?_
    rintro e w1 ⟨rfl, hc1⟩
    have hb1 := btr hb0 hc1
    rw [show sizeK 6 = 2 from rfl]
    go_wp2
    go_ret
    exact ⟨rfl, hb1⟩
  · have hm : mayK op 6 = false := by rw [mayK, if_neg (by decide), if_neg (by omega), if_neg (by omega)]; simp; omega
    rw [hm]
    clear hm
    have q0 : decide (14 ≤ op) = true := by simp; omega
    have q1 : decide (op ≤ 18) = false := by simp; omega
    have q2 : decide (7 ≤ op) = true := by simp; omega
    have q3 : decide (op ≤ 13) = false := by simp; omega
    have q4 : decide (19 ≤ op) = true := by simp; omega
    have q5 : decide (op ≤ 24) = false := by simp; omega
    have hb0 := Below.refl w.heap.size w
    go_enter Try.func19, Try.ntmps19
    go_wp2_with fail
    refine (rsize_6 _).mono ?_
    rintro e w1 ⟨rfl, hc1⟩
    have hb1 := btr hb0 hc1
    rw [show sizeK 6 = 2 from rfl]
    go_wp2
    go_ret
    exact ⟨rfl, hb1⟩
set_option maxRecDepth 100000 in
set_option maxHeartbeats 1000000 in
theorem rmay_7 (op : Int) (w : World) : Calls Try.prog 19 #[.int .i64 op, .int .i64 7] w fun e w' => e = .returned (.bool (mayK op 7)) ∧ Below w.heap.size w w' := by
  rcases (by omega : op < 7 ∨ (7 ≤ op ∧ op ≤ 13) ∨ (14 ≤ op ∧ op ≤ 18) ∨ (19 ≤ op ∧ op ≤ 24) ∨ 24 < op) with ho | ⟨h1, h2⟩ | ⟨h1, h2⟩ | ⟨h1, h2⟩ | ho
  · have hm : mayK op 7 = false := by rw [mayK, if_neg (by decide), if_neg (by omega), if_neg (by omega)]; simp; omega
    rw [hm]
    clear hm
    have q0 : decide (14 ≤ op) = false := by simp; omega
    have q1 : decide (op ≤ 18) = true := by simp; omega
    have q2 : decide (7 ≤ op) = false := by simp; omega
    have q3 : decide (op ≤ 13) = true := by simp; omega
    have q4 : decide (19 ≤ op) = false := by simp; omega
    have q5 : decide (op ≤ 24) = true := by simp; omega
    have hb0 := Below.refl w.heap.size w
    go_enter Try.func19, Try.ntmps19
    go_wp2_with fail
    refine (rsize_7 _).mono ?_
    rintro e w1 ⟨rfl, hc1⟩
    have hb1 := btr hb0 hc1
    rw [show sizeK 7 = 4 from rfl]
    go_wp2
    go_ret
    exact ⟨rfl, hb1⟩
  · have hm : mayK op 7 = true := by rw [mayK, if_neg (by decide), if_pos ⟨by omega, by omega⟩]; rfl
    rw [hm]
    clear hm
    have q0 : decide (14 ≤ op) = false := by simp; omega
    have q1 : decide (op ≤ 18) = true := by simp; omega
    have q2 : decide (7 ≤ op) = true := by simp; omega
    have q3 : decide (op ≤ 13) = true := by simp; omega
    have q4 : decide (19 ≤ op) = false := by simp; omega
    have q5 : decide (op ≤ 24) = true := by simp; omega
    have hb0 := Below.refl w.heap.size w
    go_enter Try.func19, Try.ntmps19
    go_wp2_with fail
    refine (rsize_7 _).mono ?_
    rintro e w1 ⟨rfl, hc1⟩
    have hb1 := btr hb0 hc1
    rw [show sizeK 7 = 4 from rfl]
    go_wp2
    go_ret
    exact ⟨rfl, hb1⟩
  · have hm : mayK op 7 = false := by rw [mayK, if_neg (by decide), if_neg (by omega), if_pos ⟨by omega, by omega⟩]; rfl
    rw [hm]
    clear hm
    have q0 : decide (14 ≤ op) = true := by simp; omega
    have q1 : decide (op ≤ 18) = true := by simp; omega
    have q2 : decide (7 ≤ op) = true := by simp; omega
    have q3 : decide (op ≤ 13) = false := by simp; omega
    have q4 : decide (19 ≤ op) = false := by simp; omega
    have q5 : decide (op ≤ 24) = true := by simp; omega
    have hb0 := Below.refl w.heap.size w
    go_enter Try.func19, Try.ntmps19
    go_wp2_with fail
    refine (rsize_7 _).mono ?_
    rintro e w1 ⟨rfl, hc1⟩
    have hb1 := btr hb0 hc1
    rw [show sizeK 7 = 4 from rfl]
    go_wp2
    go_ret
    exact ⟨rfl, hb1⟩
  · have hm : mayK op 7 = true := by rw [mayK, if_neg (by decide), if_neg (by omega), if_neg (by omega)]; simp; omega
    rw [hm]
    clear hm
    have q0 : decide (14 ≤ op) = true := by simp; omega
    have q1 : decide (op ≤ 18) = false := by simp; omega
    have q2 : decide (7 ≤ op) = true := by simp; omega
    have q3 : decide (op ≤ 13) = false := by simp; omega
    have q4 : decide (19 ≤ op) = true := by simp; omega
    have q5 : decide (op ≤ 24) = true := by simp; omega
    have hb0 := Below.refl w.heap.size w
    go_enter Try.func19, Try.ntmps19
    go_wp2_with fail
    refine (rsize_7 _).mono ?_
    rintro e w1 ⟨rfl, hc1⟩
    have hb1 := btr hb0 hc1
    rw [show sizeK 7 = 4 from rfl]
    go_wp2
    go_ret
    exact ⟨rfl, hb1⟩
  · have hm : mayK op 7 = false := by rw [mayK, if_neg (by decide), if_neg (by omega), if_neg (by omega)]; simp; omega
    rw [hm]
    clear hm
    have q0 : decide (14 ≤ op) = true := by simp; omega
    have q1 : decide (op ≤ 18) = false := by simp; omega
    have q2 : decide (7 ≤ op) = true := by simp; omega
    have q3 : decide (op ≤ 13) = false := by simp; omega
    have q4 : decide (19 ≤ op) = true := by simp; omega
    have q5 : decide (op ≤ 24) = false := by simp; omega
    have hb0 := Below.refl w.heap.size w
    go_enter Try.func19, Try.ntmps19
    go_wp2_with fail
    refine (rsize_7 _).mono ?_
    rintro e w1 ⟨rfl, hc1⟩
    have hb1 := btr hb0 hc1
    rw [show sizeK 7 = 4 from rfl]
    go_wp2
    go_ret
    exact ⟨rfl, hb1⟩
set_option maxRecDepth 100000 in
set_option maxHeartbeats 1000000 in
theorem rmay_out (k : Int) (hk : k < 1 ∨ 7 < k) (op : Int) (w : World) : Calls Try.prog 19 #[.int .i64 op, .int .i64 k] w fun e w' => e = .returned (.bool (mayK op 0)) ∧ Below w.heap.size w w' := by
  rcases (by omega : op < 7 ∨ (7 ≤ op ∧ op ≤ 13) ∨ (14 ≤ op ∧ op ≤ 18) ∨ (19 ≤ op ∧ op ≤ 24) ∨ 24 < op) with ho | ⟨h1, h2⟩ | ⟨h1, h2⟩ | ⟨h1, h2⟩ | ho
  · have hm : mayK op 0 = false := rfl
    rw [hm]
    clear hm
    have q0 : decide (14 ≤ op) = false := by simp; omega
    have q1 : decide (op ≤ 18) = true := by simp; omega
    have q2 : decide (7 ≤ op) = false := by simp; omega
    have q3 : decide (op ≤ 13) = true := by simp; omega
    have q4 : decide (19 ≤ op) = false := by simp; omega
    have q5 : decide (op ≤ 24) = true := by simp; omega
    have hb0 := Below.refl w.heap.size w
    go_enter Try.func19, Try.ntmps19
    go_wp2_with fail
    refine (rsize_out k hk _).mono ?_
    rintro e w1 ⟨rfl, hc1⟩
    have hb1 := btr hb0 hc1
    rw [show sizeK 0 = 0 from rfl]
    go_wp2
    go_ret
    exact ⟨rfl, hb1⟩
  · have hm : mayK op 0 = false := rfl
    rw [hm]
    clear hm
    have q0 : decide (14 ≤ op) = false := by simp; omega
    have q1 : decide (op ≤ 18) = true := by simp; omega
    have q2 : decide (7 ≤ op) = true := by simp; omega
    have q3 : decide (op ≤ 13) = true := by simp; omega
    have q4 : decide (19 ≤ op) = false := by simp; omega
    have q5 : decide (op ≤ 24) = true := by simp; omega
    have hb0 := Below.refl w.heap.size w
    go_enter Try.func19, Try.ntmps19
    go_wp2_with fail
    refine (rsize_out k hk _).mono ?_
    rintro e w1 ⟨rfl, hc1⟩
    have hb1 := btr hb0 hc1
    rw [show sizeK 0 = 0 from rfl]
    go_wp2
    go_ret
    exact ⟨rfl, hb1⟩
  · have hm : mayK op 0 = false := rfl
    rw [hm]
    clear hm
    have q0 : decide (14 ≤ op) = true := by simp; omega
    have q1 : decide (op ≤ 18) = true := by simp; omega
    have q2 : decide (7 ≤ op) = true := by simp; omega
    have q3 : decide (op ≤ 13) = false := by simp; omega
    have q4 : decide (19 ≤ op) = false := by simp; omega
    have q5 : decide (op ≤ 24) = true := by simp; omega
    have hb0 := Below.refl w.heap.size w
    go_enter Try.func19, Try.ntmps19
    go_wp2_with fail
    refine (rsize_out k hk _).mono ?_
    rintro e w1 ⟨rfl, hc1⟩
    have hb1 := btr hb0 hc1
    rw [show sizeK 0 = 0 from rfl]
    go_wp2
    go_ret
    exact ⟨rfl, hb1⟩
  · have hm : mayK op 0 = false := rfl
    rw [hm]
    clear hm
    have q0 : decide (14 ≤ op) = true := by simp; omega
    have q1 : decide (op ≤ 18) = false := by simp; omega
    have q2 : decide (7 ≤ op) = true := by simp; omega
    have q3 : decide (op ≤ 13) = false := by simp; omega
    have q4 : decide (19 ≤ op) = true := by simp; omega
    have q5 : decide (op ≤ 24) = true := by simp; omega
    have hb0 := Below.refl w.heap.size w
    go_enter Try.func19, Try.ntmps19
    go_wp2_with fail
    refine (rsize_out k hk _).mono ?_
    rintro e w1 ⟨rfl, hc1⟩
    have hb1 := btr hb0 hc1
    rw [show sizeK 0 = 0 from rfl]
    go_wp2
    go_ret
    exact ⟨rfl, hb1⟩
  · have hm : mayK op 0 = false := rfl
    rw [hm]
    clear hm
    have q0 : decide (14 ≤ op) = true := by simp; omega
    have q1 : decide (op ≤ 18) = false := by simp; omega
    have q2 : decide (7 ≤ op) = true := by simp; omega
    have q3 : decide (op ≤ 13) = false := by simp; omega
    have q4 : decide (19 ≤ op) = true := by simp; omega
    have q5 : decide (op ≤ 24) = false := by simp; omega
    have hb0 := Below.refl w.heap.size w
    go_enter Try.func19, Try.ntmps19
    go_wp2_with fail
    refine (rsize_out k hk _).mono ?_
    rintro e w1 ⟨rfl, hc1⟩
    have hb1 := btr hb0 hc1
    rw [show sizeK 0 = 0 from rfl]
    go_wp2
    go_ret
    exact ⟨rfl, hb1⟩
theorem rmay_any (op k : Int) (w : World) : Calls Try.prog 19 #[.int .i64 op, .int .i64 k] w fun e w' => e = .returned (.bool (mayK op (kN k))) ∧ Below w.heap.size w w' := by
  rcases kN_cases k with rfl | rfl | rfl | rfl | rfl | rfl | rfl | ⟨hk, h0⟩
  · exact rmay_1 op w
  · exact rmay_2 op w
  · exact rmay_3 op w
  · exact rmay_4 op w
  · exact rmay_5 op w
  · exact rmay_6 op w
  · exact rmay_7 op w
  · rw [h0]; exact rmay_out k hk op w
end Go.Proofs.Ytclbmgnpgjhlhaa
end
/-! The document's Not (made by wip/mk_iecref.py). -/
section
namespace Go.Proofs.Ytclbmgnpgjhlhaa
open Go.RowKit
set_option maxRecDepth 100000 in
set_option maxHeartbeats 1000000 in
theorem rnot_1 (v : Int) (w : World) : Calls Try.prog 17 #[.int .i64 1, .int .i64 v] w fun e w' => e = .returned (.int .i64 (notK 1 v)) ∧ Below w.heap.size w w' := by
  have hb0 := Below.refl w.heap.size w
  cases hi : isK 1 v with
  | false =>
    have hn : notK 1 v = 0 := by simp [notK, hi]
    have HI := Lib.hid hi
    rw [hn]
    clear hn hi
    go_enter Try.func17, Try.ntmps17
    go_wp2_with fail
    refine (ris_1 v _).mono ?_
    rintro e w1 ⟨rfl, hb1⟩
    rw [HI.out]
    go_wp2
    go_ret
    exact ⟨rfl, hb1⟩
  | true =>
    have hr := hi
    rw [isK_range] at hr
    simp [leastK, manyK] at hr
    have hn : notK 1 v = 1 - v := by simp [notK, hi, bitsK, manyK]
    have HI := Lib.hid hi
    have HN := Lib.hid hn
    obtain ⟨h1, h2⟩ := hr
    clear hn hi
    go_enter Try.func17, Try.ntmps17
    go_wp2_with fail
    refine (ris_1 v _).mono ?_
    rintro e w1 ⟨rfl, hb1⟩
    rw [HI.out]
    go_wp2_with fail
    refine (rmany_1 _).mono ?_
    rintro e w2 ⟨rfl, hb2⟩
    rw [show manyK 1 = 2 from rfl]
    go_wp2
    go_ret
    exact ⟨ret_int (by rw [HN.out]), btr hb1 hb2⟩
set_option maxRecDepth 100000 in
set_option maxHeartbeats 1000000 in
theorem rnot_2 (v : Int) (w : World) : Calls Try.prog 17 #[.int .i64 2, .int .i64 v] w fun e w' => e = .returned (.int .i64 (notK 2 v)) ∧ Below w.heap.size w w' := by
  have hb0 := Below.refl w.heap.size w
  have hn : notK 2 v = 0 := by simp [notK, bitsK]
  rw [hn]
  clear hn
  go_enter Try.func17, Try.ntmps17
  go_wp2
  go_ret
  exact ⟨rfl, hb0⟩
set_option maxRecDepth 100000 in
set_option maxHeartbeats 1000000 in
theorem rnot_3 (v : Int) (w : World) : Calls Try.prog 17 #[.int .i64 3, .int .i64 v] w fun e w' => e = .returned (.int .i64 (notK 3 v)) ∧ Below w.heap.size w w' := by
  have hb0 := Below.refl w.heap.size w
  have hn : notK 3 v = 0 := by simp [notK, bitsK]
  rw [hn]
  clear hn
  go_enter Try.func17, Try.ntmps17
  go_wp2
  go_ret
  exact ⟨rfl, hb0⟩
set_option maxRecDepth 100000 in
set_option maxHeartbeats 1000000 in
theorem rnot_4 (v : Int) (w : World) : Calls Try.prog 17 #[.int .i64 4, .int .i64 v] w fun e w' => e = .returned (.int .i64 (notK 4 v)) ∧ Below w.heap.size w w' := by
  have hb0 := Below.refl w.heap.size w
  have hn : notK 4 v = 0 := by simp [notK, bitsK]
  rw [hn]
  clear hn
  go_enter Try.func17, Try.ntmps17
  go_wp2
  go_ret
  exact ⟨rfl, hb0⟩
set_option maxRecDepth 100000 in
set_option maxHeartbeats 1000000 in
theorem rnot_5 (v : Int) (w : World) : Calls Try.prog 17 #[.int .i64 5, .int .i64 v] w fun e w' => e = .returned (.int .i64 (notK 5 v)) ∧ Below w.heap.size w w' := by
  have hb0 := Below.refl w.heap.size w
  have hn : notK 5 v = 0 := by simp [notK, bitsK]
  rw [hn]
  clear hn
  go_enter Try.func17, Try.ntmps17
  go_wp2
  go_ret
  exact ⟨rfl, hb0⟩
set_option maxRecDepth 100000 in
set_option maxHeartbeats 1000000 in
theorem rnot_6 (v : Int) (w : World) : Calls Try.prog 17 #[.int .i64 6, .int .i64 v] w fun e w' => e = .returned (.int .i64 (notK 6 v)) ∧ Below w.heap.size w w' := by
  have hb0 := Below.refl w.heap.size w
  cases hi : isK 6 v with
  | false =>
    have hn : notK 6 v = 0 := by simp [notK, hi]
    have HI := Lib.hid hi
    rw [hn]
    clear hn hi
    go_enter Try.func17, Try.ntmps17
    go_wp2_with fail
    refine (ris_6 v _).mono ?_
    rintro e w1 ⟨rfl, hb1⟩
    rw [HI.out]
    go_wp2
    go_ret
    exact ⟨rfl, hb1⟩
  | true =>
    have hr := hi
    rw [isK_range] at hr
    simp [leastK, manyK] at hr
    have hn : notK 6 v = 65535 - v := by simp [notK, hi, bitsK, manyK]
    have HI := Lib.hid hi
    have HN := Lib.hid hn
    obtain ⟨h1, h2⟩ := hr
    clear hn hi
    go_enter Try.func17, Try.ntmps17
    go_wp2_with fail
    refine (ris_6 v _).mono ?_
    rintro e w1 ⟨rfl, hb1⟩
    rw [HI.out]
    go_wp2_with fail
    refine (rmany_6 _).mono ?_
    rintro e w2 ⟨rfl, hb2⟩
    rw [show manyK 6 = 65536 from rfl]
    go_wp2
    go_ret
    exact ⟨ret_int (by rw [HN.out]), btr hb1 hb2⟩
set_option maxRecDepth 100000 in
set_option maxHeartbeats 1000000 in
theorem rnot_7 (v : Int) (w : World) : Calls Try.prog 17 #[.int .i64 7, .int .i64 v] w fun e w' => e = .returned (.int .i64 (notK 7 v)) ∧ Below w.heap.size w w' := by
  have hb0 := Below.refl w.heap.size w
  cases hi : isK 7 v with
  | false =>
    have hn : notK 7 v = 0 := by simp [notK, hi]
    have HI := Lib.hid hi
    rw [hn]
    clear hn hi
    go_enter Try.func17, Try.ntmps17
    go_wp2_with fail
    refine (ris_7 v _).mono ?_
    rintro e w1 ⟨rfl, hb1⟩
    rw [HI.out]
    go_wp2
    go_ret
    exact ⟨rfl, hb1⟩
  | true =>
    have hr := hi
    rw [isK_range] at hr
    simp [leastK, manyK] at hr
    have hn : notK 7 v = 4294967295 - v := by simp [notK, hi, bitsK, manyK]
    have HI := Lib.hid hi
    have HN := Lib.hid hn
    obtain ⟨h1, h2⟩ := hr
    clear hn hi
    go_enter Try.func17, Try.ntmps17
    go_wp2_with fail
    refine (ris_7 v _).mono ?_
    rintro e w1 ⟨rfl, hb1⟩
    rw [HI.out]
    go_wp2_with fail
    refine (rmany_7 _).mono ?_
    rintro e w2 ⟨rfl, hb2⟩
    rw [show manyK 7 = 4294967296 from rfl]
    go_wp2
    go_ret
    exact ⟨ret_int (by rw [HN.out]), btr hb1 hb2⟩
set_option maxRecDepth 100000 in
set_option maxHeartbeats 1000000 in
theorem rnot_out (k : Int) (hk : k < 1 ∨ 7 < k) (v : Int) (w : World) : Calls Try.prog 17 #[.int .i64 k, .int .i64 v] w fun e w' => e = .returned (.int .i64 (notK 0 v)) ∧ Below w.heap.size w w' := by
  have hb0 := Below.refl w.heap.size w
  have hn : notK 0 v = 0 := by simp [notK, bitsK]
  rw [hn]
  clear hn
  rcases hk with hk | hk
  · have h1 : (k != 1) = true := by rw [bne_iff_ne]; omega
    go_enter Try.func17, Try.ntmps17
    go_wp2
    go_ret
    exact ⟨rfl, hb0⟩
  · have h1 : (k != 1) = true := by rw [bne_iff_ne]; omega
    have HK := Lib.hid (show k < 1 ∨ 7 < k from .inr hk)
    go_enter Try.func17, Try.ntmps17
    go_wp2_with fail
    refine (ris_out k HK.out v _).mono ?_
    rintro e w1 ⟨rfl, hb1⟩
    rw [show isK 0 v = false by simp [isK]]
    go_wp2
    go_ret
    exact ⟨rfl, hb1⟩
theorem rnot_any (k : Int) (v : Int) (w : World) : Calls Try.prog 17 #[.int .i64 k, .int .i64 v] w fun e w' => e = .returned (.int .i64 (notK (kN k) v)) ∧ Below w.heap.size w w' := by
  rcases kN_cases k with rfl | rfl | rfl | rfl | rfl | rfl | rfl | ⟨hk, h0⟩
  · exact rnot_1 v w
  · exact rnot_2 v w
  · exact rnot_3 v w
  · exact rnot_4 v w
  · exact rnot_5 v w
  · exact rnot_6 v w
  · exact rnot_7 v w
  · rw [h0]; exact rnot_out k hk v w
end Go.Proofs.Ytclbmgnpgjhlhaa
end
/-! Are a kind's bytes there? The program's and the document's, walked. -/
section
namespace Go.Proofs.Ytclbmgnpgjhlhaa
open Go.RowKit
def thereB (L a n : Int) : Bool := decide (0 < n ∧ 0 ≤ a ∧ a ≤ L ∧ n ≤ L - a)
theorem sizeK_bd (k : Nat) : 0 ≤ sizeK k ∧ sizeK k ≤ 4 := by unfold sizeK; split <;> decide
def RetB (x : Bool) (w : World) (e : Ending) (w' : World) : Prop := e = .returned (.bool x) ∧ Below w.heap.size w w'
theorem RetB.mk {x y : Bool} {w w' : World} (h : x = y) (hb : Below w.heap.size w w') : RetB x w (.returned (.bool y)) w' := by subst h; exact ⟨rfl, hb⟩
set_option maxRecDepth 100000 in
theorem there_any (L a k : Int) (hL : 0 ≤ L ∧ L ≤ 140737488355328) (ha : -9223372036854775808 ≤ a ∧ a ≤ 9223372036854775807) (w : World) : Calls Try.prog 52 #[.int .i64 L, .int .i64 a, .int .i64 k] w (RetB (thereB L a (sizeK (kN k))) w) := by
  have hbd := sizeK_bd (kN k)
  obtain ⟨n, hn⟩ : ∃ n, n = sizeK (kN k) := ⟨_, rfl⟩
  rw [← hn] at hbd ⊢
  have HN := Lib.hid hn
  clear hn
  by_cases h1 : 0 < n
  · by_cases h2 : 0 ≤ a
    · by_cases h3 : a ≤ L
      · by_cases h4 : n ≤ L - a
        · have ht : thereB L a n = true := by simp [thereB] <;> omega
          have HT := Lib.hid ht
          clear ht
          go_enter Try.func52, Try.ntmps52
          go_wp2_with (refine (size_any k _).mono ?_; rintro e w1 ⟨rfl, hb1⟩; rw [← HN.out])
          go_ret
          exact RetB.mk (by (rw [HT.out]) <;> (simp <;> omega)) hb1
        · have ht : thereB L a n = false := by simp [thereB] <;> omega
          have HT := Lib.hid ht
          clear ht
          go_enter Try.func52, Try.ntmps52
          go_wp2_with (refine (size_any k _).mono ?_; rintro e w1 ⟨rfl, hb1⟩; rw [← HN.out])
          go_ret
          exact RetB.mk (by (rw [HT.out]) <;> (simp <;> omega)) hb1
      · have ht : thereB L a n = false := by simp [thereB] <;> omega
        have HT := Lib.hid ht
        clear ht
        go_enter Try.func52, Try.ntmps52
        go_wp2_with (refine (size_any k _).mono ?_; rintro e w1 ⟨rfl, hb1⟩; rw [← HN.out])
        go_ret
        exact RetB.mk (by (rw [HT.out]) <;> (simp <;> omega)) hb1
    · have ht : thereB L a n = false := by simp [thereB] <;> omega
      have HT := Lib.hid ht
      clear ht
      go_enter Try.func52, Try.ntmps52
      go_wp2_with (refine (size_any k _).mono ?_; rintro e w1 ⟨rfl, hb1⟩; rw [← HN.out])
      go_ret
      exact RetB.mk (by (rw [HT.out]) <;> (simp <;> omega)) hb1
  · have ht : thereB L a n = false := by simp [thereB] <;> omega
    have HT := Lib.hid ht
    clear ht
    go_enter Try.func52, Try.ntmps52
    go_wp2_with (refine (size_any k _).mono ?_; rintro e w1 ⟨rfl, hb1⟩; rw [← HN.out])
    go_ret
    exact RetB.mk (by (rw [HT.out]) <;> (simp <;> omega)) hb1
set_option maxRecDepth 100000 in
theorem rthere_any (L a k : Int) (hL : 0 ≤ L ∧ L ≤ 140737488355328) (ha : -9223372036854775808 ≤ a ∧ a ≤ 9223372036854775807) (w : World) : Calls Try.prog 20 #[.int .i64 L, .int .i64 a, .int .i64 k] w (RetB (thereB L a (sizeK (kN k))) w) := by
  have hbd := sizeK_bd (kN k)
  obtain ⟨n, hn⟩ : ∃ n, n = sizeK (kN k) := ⟨_, rfl⟩
  rw [← hn] at hbd ⊢
  have HN := Lib.hid hn
  clear hn
  by_cases h1 : 0 < n
  · by_cases h2 : 0 ≤ a
    · by_cases h3 : a ≤ L
      · by_cases h4 : n ≤ L - a
        · have ht : thereB L a n = true := by simp [thereB] <;> omega
          have HT := Lib.hid ht
          clear ht
          go_enter Try.func20, Try.ntmps20
          go_wp2_with (refine (rsize_any k _).mono ?_; rintro e w1 ⟨rfl, hb1⟩; rw [← HN.out])
          go_ret
          exact RetB.mk (by (rw [HT.out]) <;> (simp <;> omega)) hb1
        · have ht : thereB L a n = false := by simp [thereB] <;> omega
          have HT := Lib.hid ht
          clear ht
          go_enter Try.func20, Try.ntmps20
          go_wp2_with (refine (rsize_any k _).mono ?_; rintro e w1 ⟨rfl, hb1⟩; rw [← HN.out])
          go_ret
          exact RetB.mk (by (rw [HT.out]) <;> (simp <;> omega)) hb1
      · have ht : thereB L a n = false := by simp [thereB] <;> omega
        have HT := Lib.hid ht
        clear ht
        go_enter Try.func20, Try.ntmps20
        go_wp2_with (refine (rsize_any k _).mono ?_; rintro e w1 ⟨rfl, hb1⟩; rw [← HN.out])
        go_ret
        exact RetB.mk (by (rw [HT.out]) <;> (simp <;> omega)) hb1
    · have ht : thereB L a n = false := by simp [thereB] <;> omega
      have HT := Lib.hid ht
      clear ht
      go_enter Try.func20, Try.ntmps20
      go_wp2_with (refine (rsize_any k _).mono ?_; rintro e w1 ⟨rfl, hb1⟩; rw [← HN.out])
      go_ret
      exact RetB.mk (by (rw [HT.out]) <;> (simp <;> omega)) hb1
  · have ht : thereB L a n = false := by simp [thereB] <;> omega
    have HT := Lib.hid ht
    clear ht
    go_enter Try.func20, Try.ntmps20
    go_wp2_with (refine (rsize_any k _).mono ?_; rintro e w1 ⟨rfl, hb1⟩; rw [← HN.out])
    go_ret
    exact RetB.mk (by (rw [HT.out]) <;> (simp <;> omega)) hb1
end Go.Proofs.Ytclbmgnpgjhlhaa
end
