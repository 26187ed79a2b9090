/- The kinds of numbers (plain). -/
import Derived.Test.YtclbmgnpgjhlhaaBase
import Derived.IntWalk
namespace Go.Proofs.Ytclbmgnpgjhlhaa
open Go.RowKit
/-- A kind's number; 0: none. -/
def kN (k : Int) : Nat := if 1 ≤ k ∧ k ≤ 7 then k.toNat else 0
theorem kN_cases (k : Int) : k = 1 ∨ k = 2 ∨ k = 3 ∨ k = 4 ∨ k = 5 ∨ k = 6 ∨ k = 7 ∨ ((k < 1 ∨ 7 < k) ∧ kN k = 0) := by
  by_cases h : 1 ≤ k ∧ k ≤ 7
  · omega
  · have : kN k = 0 := by unfold kN; rw [if_neg h]
    omega
def sizeK : Nat → Int | 1 => 1 | 2 => 1 | 3 => 2 | 4 => 4 | 5 => 2 | 6 => 2 | 7 => 4 | _ => 0
def leastK : Nat → Int | 2 => -128 | 3 => -32768 | 4 => -2147483648 | _ => 0
def manyK : Nat → Int | 1 => 2 | 2 => 256 | 3 => 65536 | 4 => 4294967296 | 5 => 65536 | 6 => 65536 | 7 => 4294967296 | _ => 1
def wrapK : Nat → Int → Int
  | 1, v => if v = 0 then 0 else 1
  | 2, v => (v + 128) % 256 - 128
  | 3, v => (v + 32768) % 65536 - 32768
  | 4, v => (v + 2147483648) % 4294967296 - 2147483648
  | 5, v => v % 65536
  | 6, v => v % 65536
  | 7, v => v % 4294967296
  | _, _ => 0
def isK (k : Nat) (v : Int) : Bool := decide (k ≠ 0 ∧ k ≤ 7) && decide (wrapK k v = v)
def bitsK : Nat → Bool | 1 => true | 6 => true | 7 => true | _ => false
def mayK (op : Int) (k : Nat) : Bool :=
  if k = 0 then false else if 7 ≤ op ∧ op ≤ 13 then bitsK k else if 14 ≤ op ∧ op ≤ 18 then !bitsK k else decide (19 ≤ op ∧ op ≤ 24)
def notK (k : Nat) (v : Int) : Int := if bitsK k = true ∧ isK k v = true then manyK k - 1 - v else 0
theorem wrap_i8' (v : Int) : IntKind.i8.wrap v = (v + 128) % 256 - 128 := by
  show (let m := v % 256; if (true && decide (m ≥ 128)) = true then m - 256 else m) = _
  simp only [Bool.true_and, decide_eq_true_eq]
  split <;> omega
theorem wrap_i16' (v : Int) : IntKind.i16.wrap v = (v + 32768) % 65536 - 32768 := by
  show (let m := v % 65536; if (true && decide (m ≥ 32768)) = true then m - 65536 else m) = _
  simp only [Bool.true_and, decide_eq_true_eq]
  split <;> omega
theorem wrap_i32' (v : Int) : IntKind.i32.wrap v = (v + 2147483648) % 4294967296 - 2147483648 := by
  show (let m := v % 4294967296; if (true && decide (m ≥ 2147483648)) = true then m - 4294967296 else m) = _
  simp only [Bool.true_and, decide_eq_true_eq]
  split <;> omega
theorem wrap_u16' (v : Int) : IntKind.u16.wrap v = v % 65536 := by
  show (let m := v % 65536; if (false && decide (m ≥ 32768)) = true then m - 65536 else m) = _
  simp
theorem wrap_u32' (v : Int) : IntKind.u32.wrap v = v % 4294967296 := by
  show (let m := v % 4294967296; if (false && decide (m ≥ 2147483648)) = true then m - 4294967296 else m) = _
  simp
theorem isK_range (k : Nat) (v : Int) : isK k v = decide (k ≠ 0 ∧ k ≤ 7 ∧ leastK k ≤ v ∧ v ≤ leastK k + manyK k - 1) := by
  unfold isK
  rw [Bool.eq_iff_iff]
  simp only [Bool.and_eq_true, decide_eq_true_eq]
  match k with
  | 0 => simp
  | 1 => simp only [wrapK, leastK, manyK]; split <;> omega
  | 2 => simp only [wrapK, leastK, manyK]; omega
  | 3 => simp only [wrapK, leastK, manyK]; omega
  | 4 => simp only [wrapK, leastK, manyK]; omega
  | 5 => simp only [wrapK, leastK, manyK]; omega
  | 6 => simp only [wrapK, leastK, manyK]; omega
  | 7 => simp only [wrapK, leastK, manyK]; omega
  | n + 8 => simp [wrapK, leastK, manyK]
end Go.Proofs.Ytclbmgnpgjhlhaa
