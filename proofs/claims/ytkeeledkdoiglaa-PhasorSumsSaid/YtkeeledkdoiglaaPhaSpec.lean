/- Phasors as pairs of whole numbers (plain). -/
import Derived.Test.YtkeeledkdoiglaaFlo
import Derived.RowKit3
namespace Go.Proofs.Ytkeeledkdoiglaa
open Go.RowKit
def smallZ (x : Int) : Int := min (max x (-1048576)) 1048576
theorem smallZ_bd (x : Int) : -1048576 ≤ smallZ x ∧ smallZ x ≤ 1048576 := by unfold smallZ; omega
theorem smallZ_id {x : Int} (h : -1048576 ≤ x ∧ x ≤ 1048576) : smallZ x = x := by unfold smallZ; omega
def turnZ (z : Int × Int) (n : Int) : Int × Int :=
  if n % 4 = 0 then z else if n % 4 = 1 then (-z.2, z.1) else if n % 4 = 2 then (-z.1, -z.2) else (z.2, -z.1)
def BdZ (B : Int) (z : Int × Int) : Prop := (-B ≤ z.1 ∧ z.1 ≤ B) ∧ (-B ≤ z.2 ∧ z.2 ≤ B)
theorem turnZ_bd {B : Int} {z : Int × Int} (n : Int) (h : BdZ B z) : BdZ B (turnZ z n) := by
  obtain ⟨h1, h2⟩ := h
  unfold turnZ BdZ
  split
  · exact ⟨h1, h2⟩
  split
  · exact ⟨⟨by omega, by omega⟩, h1⟩
  split
  · exact ⟨⟨by omega, by omega⟩, ⟨by omega, by omega⟩⟩
  · exact ⟨h2, ⟨by omega, by omega⟩⟩
theorem turnZ_mod (z : Int × Int) {m n : Int} (h : m % 4 = n % 4) : turnZ z m = turnZ z n := by unfold turnZ; rw [h]
theorem turnZ_one (z : Int × Int) (n : Int) : turnZ z (n + 1) = (-(turnZ z n).2, (turnZ z n).1) := by
  unfold turnZ
  rcases (by omega : n % 4 = 0 ∨ n % 4 = 1 ∨ n % 4 = 2 ∨ n % 4 = 3) with h | h | h | h
  · rw [show (n + 1) % 4 = 1 by omega, h]; simp
  · rw [show (n + 1) % 4 = 2 by omega, h]; simp
  · rw [show (n + 1) % 4 = 3 by omega, h]; simp
  · rw [show (n + 1) % 4 = 0 by omega, h]; simp
/-- Turned: the product with a power of i. -/
theorem turnZ_mul (z : Int × Int) (n : Int) : turnZ z n = (z.1 * (turnZ (1, 0) n).1 - z.2 * (turnZ (1, 0) n).2, z.1 * (turnZ (1, 0) n).2 + z.2 * (turnZ (1, 0) n).1) := by
  unfold turnZ
  split
  · simp
  split
  · simp
  split
  · simp [Int.mul_neg]
  · simp [Int.mul_neg]
def powZ (z : Int × Int) : Int := z.1 * z.1 + z.2 * z.2
theorem powZ_turn (z : Int × Int) (n : Int) : powZ (turnZ z n) = powZ z := by
  unfold powZ turnZ
  split
  · rfl
  split
  · simp only [Int.neg_mul_neg]; omega
  split
  · simp only [Int.neg_mul_neg]
  · simp only [Int.neg_mul_neg]; omega
theorem sq_bd {B a : Int} (hB : 0 ≤ B) (h : -B ≤ a ∧ a ≤ B) : 0 ≤ a * a ∧ a * a ≤ B * B := by
  constructor
  · rcases Int.le_total 0 a with h0 | h0
    · exact Int.mul_nonneg h0 h0
    · exact Int.mul_nonneg_of_nonpos_of_nonpos h0 h0
  · rcases Int.le_total 0 a with h0 | h0
    · exact Int.mul_le_mul h.2 h.2 h0 hB
    · have := Int.mul_le_mul (show -a ≤ B by omega) (show -a ≤ B by omega) (show 0 ≤ -a by omega) hB
      rwa [Int.neg_mul_neg] at this
def addZ (a b : Int × Int) : Int × Int := (a.1 + b.1, a.2 + b.2)
/-- The bin of samples. -/
def binZ (l : List Int) (k : Int) : Nat → Int × Int
  | 0 => (0, 0)
  | n + 1 => addZ (binZ l k n) (turnZ (smallZ (l.getD n 0), 0) (-(k % 4) * ((n : Int) % 4)))
theorem binZ_bd (l : List Int) (k : Int) (n : Nat) : BdZ (1048576 * (n : Int)) (binZ l k n) := by
  induction n with
  | zero => exact ⟨⟨by simp [binZ], by simp [binZ]⟩, ⟨by simp [binZ], by simp [binZ]⟩⟩
  | succ n ih =>
    have h := turnZ_bd (B := 1048576) (z := (smallZ (l.getD n 0), 0)) (-(k % 4) * ((n : Int) % 4)) ⟨smallZ_bd _, by constructor <;> simp⟩
    obtain ⟨⟨h1, h2⟩, h3, h4⟩ := h
    obtain ⟨⟨i1, i2⟩, i3, i4⟩ := ih
    have e : (1048576 : Int) * ((n + 1 : Nat) : Int) = 1048576 * (n : Int) + 1048576 := by omega
    rw [e]
    refine ⟨⟨?_, ?_⟩, ?_, ?_⟩ <;> simp only [binZ, addZ] <;> omega
end Go.Proofs.Ytkeeledkdoiglaa
