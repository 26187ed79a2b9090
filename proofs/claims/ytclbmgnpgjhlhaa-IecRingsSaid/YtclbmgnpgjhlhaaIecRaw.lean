/- The program's raw operations (made by wip/mk_iecdo.py). -/
import Derived.Test.YtclbmgnpgjhlhaaIecNot
import Derived.Test.YtclbmgnpgjhlhaaIecBits
namespace Go.Proofs.Ytclbmgnpgjhlhaa
open Go.RowKit
theorem bits_nat (op : BinOp) (f : Nat → Nat → Nat) (hf : (op = .and ∧ f = fun x y => x &&& y) ∨ (op = .or ∧ f = fun x y => x ||| y) ∨ (op = .xor ∧ f = fun x y => x ^^^ y)) (x y : Nat) (hx : x < 2 ^ 32) (hy : y < 2 ^ 32) : bits op .i64 (x : Int) (y : Int) = ((f x y : Nat) : Int) := by
  have ex : (BitVec.ofInt 64 (x : Int)).toNat = x := by rw [BitVec.ofInt_natCast, BitVec.toNat_ofNat, Nat.mod_eq_of_lt (by omega)]
  have ey : (BitVec.ofInt 64 (y : Int)).toNat = y := by rw [BitVec.ofInt_natCast, BitVec.toNat_ofNat, Nat.mod_eq_of_lt (by omega)]
  rcases hf with ⟨rfl, rfl⟩ | ⟨rfl, rfl⟩ | ⟨rfl, rfl⟩
  · have h : x &&& y < 2 ^ 32 := Nat.and_lt_two_pow _ hy
    show IntKind.i64.wrap ((BitVec.ofInt 64 (x : Int) &&& BitVec.ofInt 64 (y : Int)).toNat : Int) = _
    rw [BitVec.toNat_and, ex, ey]
    exact IntWalk.i64_in _ (by omega)
  · have h : x ||| y < 2 ^ 32 := Nat.or_lt_two_pow hx hy
    show IntKind.i64.wrap ((BitVec.ofInt 64 (x : Int) ||| BitVec.ofInt 64 (y : Int)).toNat : Int) = _
    rw [BitVec.toNat_or, ex, ey]
    exact IntWalk.i64_in _ (by omega)
  · have h : x ^^^ y < 2 ^ 32 := Nat.xor_lt_two_pow hx hy
    show IntKind.i64.wrap ((BitVec.ofInt 64 (x : Int) ^^^ BitVec.ofInt 64 (y : Int)).toNat : Int) = _
    rw [BitVec.toNat_xor, ex, ey]
    exact IntWalk.i64_in _ (by omega)
def quoV (a b : Int) : Int := if b = 0 then 0 else a.tdiv b
def remV (a b : Int) : Int := if b = 0 then 0 else a.tmod b
def yesV (p : Prop) [Decidable p] : Int := if p then 1 else 0
def In32 (a : Int) : Prop := -4294967296 ≤ a ∧ a ≤ 4294967296
theorem tdiv_in (a b : Int) (h : In32 a) : In32 (a.tdiv b) := by
  have h1 : (a.tdiv b).natAbs = a.natAbs / b.natAbs := Int.natAbs_tdiv a b
  have h2 : a.natAbs / b.natAbs ≤ a.natAbs := Nat.div_le_self _ _
  unfold In32 at *
  omega
theorem tmod_in (a b : Int) (h : In32 a) : In32 (a.tmod b) := by
  have h1 : (a.tmod b).natAbs = a.natAbs % b.natAbs := Int.natAbs_tmod a b
  have h2 : a.natAbs % b.natAbs ≤ a.natAbs := Nat.mod_le _ _
  unfold In32 at *
  omega
set_option maxRecDepth 100000 in
set_option maxHeartbeats 1000000 in
theorem yes_any (p : Bool) (w : World) : Calls Try.prog 71 #[.bool p] w fun e w' => e = .returned (.int .i64 (if p = true then 1 else 0)) ∧ w = w' := by
  cases p
  all_goals
    go_enter Try.func71, Try.ntmps71
    go_wp2
    go_ret
    exact ⟨rfl, rfl⟩
set_option maxRecDepth 100000 in
set_option maxHeartbeats 1000000 in
theorem quot_any (a b : Int) (ha : In32 a) (w : World) : Calls Try.prog 70 #[.int .i64 a, .int .i64 b] w fun e w' => e = .returned (.tuple #[.int .i64 (quoV a b), .int .i64 (remV a b)]) ∧ Below w.heap.size w w' := by
  by_cases hb : b = 0
  · have e1 : quoV a b = 0 := by rw [quoV, if_pos hb]
    have e2 : remV a b = 0 := by rw [remV, if_pos hb]
    rw [e1, e2]
    clear e1 e2
    go_enter Try.func70, Try.ntmps70
    go_wp2
    go_ret2
    exact ⟨rfl, Below.refl _ _⟩
  · have e1 : quoV a b = a.tdiv b := by rw [quoV, if_neg hb]
    have e2 : remV a b = a.tmod b := by rw [remV, if_neg hb]
    rw [e1, e2]
    have t1 := tdiv_in a b ha
    have t2 := tmod_in a b ha
    unfold In32 at t1 t2
    have q1 : IntKind.i64.wrap (a.tdiv b) = a.tdiv b := IntWalk.i64_in _ (by omega)
    have q2 : IntKind.i64.wrap (a.tmod b) = a.tmod b := IntWalk.i64_in _ (by omega)
    have hb1 : (b == 0) = false := by rw [beq_eq_false_iff_ne]; exact hb
    clear e1 e2 t1 t2
    go_enter Try.func70, Try.ntmps70
    go_wp2_with fail
    go_quiet (fail)
    go_wp2
    go_ret2
    exact ⟨rfl, ⟨rfl, rfl, rfl, Nat.le_refl _, fun _ _ => rfl⟩⟩
set_option maxRecDepth 100000 in
set_option maxHeartbeats 1000000 in
theorem raw_7 (x y : Nat) (hx : x < 2 ^ 32) (hy : y < 2 ^ 32) (w : World) : Calls Try.prog 48 #[.int .i64 7, .int .i64 (x : Int), .int .i64 (y : Int)] w fun e w' => e = .returned (.int .i64 ((x &&& y : Nat) : Int)) ∧ Below w.heap.size w w' := by
  have hin : In32 (x : Int) := by unfold In32; omega
  have hbt := bits_nat .and (fun x y => x &&& y) (.inl ⟨rfl, rfl⟩) x y hx hy
  go_enter Try.func48, Try.ntmps48
  go_wp2_with fail
  refine (quot_any _ _ hin _).mono ?_
  rintro e w1 ⟨rfl, hb1⟩
  go_wp2
  go_ret
  exact ⟨rfl, hb1⟩
set_option maxRecDepth 100000 in
set_option maxHeartbeats 1000000 in
theorem raw_8 (x y : Nat) (hx : x < 2 ^ 32) (hy : y < 2 ^ 32) (w : World) : Calls Try.prog 48 #[.int .i64 8, .int .i64 (x : Int), .int .i64 (y : Int)] w fun e w' => e = .returned (.int .i64 ((x ||| y : Nat) : Int)) ∧ Below w.heap.size w w' := by
  have hin : In32 (x : Int) := by unfold In32; omega
  have hbt := bits_nat .or (fun x y => x ||| y) (.inr (.inl ⟨rfl, rfl⟩)) x y hx hy
  go_enter Try.func48, Try.ntmps48
  go_wp2_with fail
  refine (quot_any _ _ hin _).mono ?_
  rintro e w1 ⟨rfl, hb1⟩
  go_wp2
  go_ret
  exact ⟨rfl, hb1⟩
set_option maxRecDepth 100000 in
set_option maxHeartbeats 1000000 in
theorem raw_9 (x y : Nat) (hx : x < 2 ^ 32) (hy : y < 2 ^ 32) (w : World) : Calls Try.prog 48 #[.int .i64 9, .int .i64 (x : Int), .int .i64 (y : Int)] w fun e w' => e = .returned (.int .i64 ((x ^^^ y : Nat) : Int)) ∧ Below w.heap.size w w' := by
  have hin : In32 (x : Int) := by unfold In32; omega
  have hbt := bits_nat .xor (fun x y => x ^^^ y) (.inr (.inr ⟨rfl, rfl⟩)) x y hx hy
  go_enter Try.func48, Try.ntmps48
  go_wp2_with fail
  refine (quot_any _ _ hin _).mono ?_
  rintro e w1 ⟨rfl, hb1⟩
  go_wp2
  go_ret
  exact ⟨rfl, hb1⟩
set_option maxRecDepth 100000 in
set_option maxHeartbeats 1000000 in
theorem raw_14 (a b : Int) (ha : In32 a) (hb : In32 b) (w : World) : Calls Try.prog 48 #[.int .i64 14, .int .i64 a, .int .i64 b] w fun e w' => e = .returned (.int .i64 (a + b)) ∧ Below w.heap.size w w' := by
  have h1 := ha
  have h2 := hb
  unfold In32 at h1 h2
  go_enter Try.func48, Try.ntmps48
  go_wp2_with fail
  refine (quot_any _ _ ha _).mono ?_
  rintro e w1 ⟨rfl, hb1⟩
  go_wp2
  go_ret
  exact ⟨rfl, hb1⟩
set_option maxRecDepth 100000 in
set_option maxHeartbeats 1000000 in
theorem raw_15 (a b : Int) (ha : In32 a) (hb : In32 b) (w : World) : Calls Try.prog 48 #[.int .i64 15, .int .i64 a, .int .i64 b] w fun e w' => e = .returned (.int .i64 (a - b)) ∧ Below w.heap.size w w' := by
  have h1 := ha
  have h2 := hb
  unfold In32 at h1 h2
  go_enter Try.func48, Try.ntmps48
  go_wp2_with fail
  refine (quot_any _ _ ha _).mono ?_
  rintro e w1 ⟨rfl, hb1⟩
  go_wp2
  go_ret
  exact ⟨rfl, hb1⟩
set_option maxRecDepth 100000 in
set_option maxHeartbeats 1000000 in
theorem raw_16 (a b : Int) (ha : In32 a) (hm : -9223372036854775808 ≤ a * b ∧ a * b ≤ 9223372036854775807) (w : World) : Calls Try.prog 48 #[.int .i64 16, .int .i64 a, .int .i64 b] w fun e w' => e = .returned (.int .i64 (a * b)) ∧ Below w.heap.size w w' := by
  have q : IntKind.i64.wrap (a * b) = a * b := IntWalk.i64_in _ hm
  clear hm
  go_enter Try.func48, Try.ntmps48
  go_wp2_with fail
  refine (quot_any _ _ ha _).mono ?_
  rintro e w1 ⟨rfl, hb1⟩
  go_wp2
  go_ret
  exact ⟨rfl, hb1⟩
set_option maxRecDepth 100000 in
set_option maxHeartbeats 1000000 in
theorem raw_17 (a b : Int) (ha : In32 a) (w : World) : Calls Try.prog 48 #[.int .i64 17, .int .i64 a, .int .i64 b] w fun e w' => e = .returned (.int .i64 (quoV a b)) ∧ Below w.heap.size w w' := by
  go_enter Try.func48, Try.ntmps48
  go_wp2_with fail
  refine (quot_any _ _ ha _).mono ?_
  rintro e w1 ⟨rfl, hb1⟩
  go_wp2
  go_ret
  exact ⟨rfl, hb1⟩
set_option maxRecDepth 100000 in
set_option maxHeartbeats 1000000 in
theorem raw_18 (a b : Int) (ha : In32 a) (w : World) : Calls Try.prog 48 #[.int .i64 18, .int .i64 a, .int .i64 b] w fun e w' => e = .returned (.int .i64 (remV a b)) ∧ Below w.heap.size w w' := by
  go_enter Try.func48, Try.ntmps48
  go_wp2_with fail
  refine (quot_any _ _ ha _).mono ?_
  rintro e w1 ⟨rfl, hb1⟩
  go_wp2
  go_ret
  exact ⟨rfl, hb1⟩
set_option maxRecDepth 100000 in
set_option maxHeartbeats 1000000 in
theorem raw_19 (a b : Int) (ha : In32 a) (w : World) : Calls Try.prog 48 #[.int .i64 19, .int .i64 a, .int .i64 b] w fun e w' => e = .returned (.int .i64 (yesV (a > b))) ∧ Below w.heap.size w w' := by
  go_enter Try.func48, Try.ntmps48
  go_wp2_with fail
  refine (quot_any _ _ ha _).mono ?_
  rintro e w1 ⟨rfl, hb1⟩
  go_wp2_with fail
  refine (yes_any _ _).mono ?_
  rintro e w2 ⟨rfl, rfl⟩
  go_wp2
  all_goals
    go_ret
    exact ⟨ret_int (by simp [yesV]), hb1⟩
set_option maxRecDepth 100000 in
set_option maxHeartbeats 1000000 in
theorem raw_20 (a b : Int) (ha : In32 a) (w : World) : Calls Try.prog 48 #[.int .i64 20, .int .i64 a, .int .i64 b] w fun e w' => e = .returned (.int .i64 (yesV (a ≥ b))) ∧ Below w.heap.size w w' := by
  go_enter Try.func48, Try.ntmps48
  go_wp2_with fail
  refine (quot_any _ _ ha _).mono ?_
  rintro e w1 ⟨rfl, hb1⟩
  go_wp2_with fail
  refine (yes_any _ _).mono ?_
  rintro e w2 ⟨rfl, rfl⟩
  go_wp2
  all_goals
    go_ret
    exact ⟨ret_int (by simp [yesV]), hb1⟩
set_option maxRecDepth 100000 in
set_option maxHeartbeats 1000000 in
theorem raw_21 (a b : Int) (ha : In32 a) (w : World) : Calls Try.prog 48 #[.int .i64 21, .int .i64 a, .int .i64 b] w fun e w' => e = .returned (.int .i64 (yesV (a = b))) ∧ Below w.heap.size w w' := by
  go_enter Try.func48, Try.ntmps48
  go_wp2_with fail
  refine (quot_any _ _ ha _).mono ?_
  rintro e w1 ⟨rfl, hb1⟩
  go_wp2_with fail
  refine (yes_any _ _).mono ?_
  rintro e w2 ⟨rfl, rfl⟩
  go_wp2
  all_goals
    go_ret
    exact ⟨ret_int (by simp [yesV]), hb1⟩
set_option maxRecDepth 100000 in
set_option maxHeartbeats 1000000 in
theorem raw_22 (a b : Int) (ha : In32 a) (w : World) : Calls Try.prog 48 #[.int .i64 22, .int .i64 a, .int .i64 b] w fun e w' => e = .returned (.int .i64 (yesV (a ≠ b))) ∧ Below w.heap.size w w' := by
  go_enter Try.func48, Try.ntmps48
  go_wp2_with fail
  refine (quot_any _ _ ha _).mono ?_
  rintro e w1 ⟨rfl, hb1⟩
  go_wp2_with fail
  refine (yes_any _ _).mono ?_
  rintro e w2 ⟨rfl, rfl⟩
  go_wp2
  all_goals
    go_ret
    exact ⟨ret_int (by simp [yesV]), hb1⟩
set_option maxRecDepth 100000 in
set_option maxHeartbeats 1000000 in
theorem raw_23 (a b : Int) (ha : In32 a) (w : World) : Calls Try.prog 48 #[.int .i64 23, .int .i64 a, .int .i64 b] w fun e w' => e = .returned (.int .i64 (yesV (a ≤ b))) ∧ Below w.heap.size w w' := by
  go_enter Try.func48, Try.ntmps48
  go_wp2_with fail
  refine (quot_any _ _ ha _).mono ?_
  rintro e w1 ⟨rfl, hb1⟩
  go_wp2_with fail
  refine (yes_any _ _).mono ?_
  rintro e w2 ⟨rfl, rfl⟩
  go_wp2
  all_goals
    go_ret
    exact ⟨ret_int (by simp [yesV]), hb1⟩
set_option maxRecDepth 100000 in
set_option maxHeartbeats 1000000 in
theorem raw_24 (a b : Int) (ha : In32 a) (w : World) : Calls Try.prog 48 #[.int .i64 24, .int .i64 a, .int .i64 b] w fun e w' => e = .returned (.int .i64 (yesV (a < b))) ∧ Below w.heap.size w w' := by
  go_enter Try.func48, Try.ntmps48
  go_wp2_with fail
  refine (quot_any _ _ ha _).mono ?_
  rintro e w1 ⟨rfl, hb1⟩
  go_wp2_with fail
  refine (yes_any _ _).mono ?_
  rintro e w2 ⟨rfl, rfl⟩
  go_wp2
  all_goals
    go_ret
    exact ⟨ret_int (by simp [yesV]), hb1⟩
end Go.Proofs.Ytclbmgnpgjhlhaa
