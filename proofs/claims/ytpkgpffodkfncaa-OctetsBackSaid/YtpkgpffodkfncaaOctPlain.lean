/- Plain: the reference's eye and the program's take the same. -/
import Derived.Test.YtpkgpffodkfncaaOctSpec
import Derived.Test.YtpkgpffodkfncaaBase
namespace Go.Proofs.Ytpkgpffodkfncaa.Oct
theorem rtake_take (s : ByteArray) (a : Nat) (bl : Bool) (n : Int) (ha : a ≤ s.size) :
    rtake (s.extract a s.size) bl n = ((take s a bl n).1, s.extract (take s a bl n).2.1 s.size, (take s a bl n).2.2) := by
  unfold rtake take
  have hsz : ((s.extract a s.size).size : Int) = (s.size : Int) - a := by rw [ByteArray.size_extract]; omega
  by_cases hc : bl = true ∨ n < 0 ∨ (s.size : Int) - a < n
  · have hc' : bl = true ∨ n < 0 ∨ ((s.extract a s.size).size : Int) < n := by rw [hsz]; exact hc
    rw [if_pos hc, if_pos hc']
  · have hc' : ¬ (bl = true ∨ n < 0 ∨ ((s.extract a s.size).size : Int) < n) := by rw [hsz]; exact hc
    rw [if_neg hc, if_neg hc']
    have hn : n.toNat ≤ s.size - a := by omega
    refine Prod.ext ?_ (Prod.ext ?_ rfl)
    · dsimp only
      rw [ByteArray.extract_extract]
      congr 1 <;> omega
    · dsimp only
      rw [ByteArray.extract_extract]
      congr 1 <;> omega
theorem take_len (s : ByteArray) (a : Nat) (bl : Bool) (n : Nat) : (take s a bl (n : Int)).1.data.toList.length ≤ n := by
  unfold take
  split
  · simp
  · rw [Array.length_toList]
    show (s.extract _ _).size ≤ n
    rw [ByteArray.size_extract]; omega
theorem num_one (l : List UInt8) (h : l.length ≤ 1) : num l < 256 := by
  match l, h with
  | [], _ => decide
  | [c], _ => have := c.toNat_lt; simp [num]; omega
theorem num_two (l : List UInt8) (h : l.length ≤ 2) : num l < 65536 := by
  match l, h with
  | [], _ => decide
  | [c], _ => have := c.toNat_lt; simp [num]; omega
  | [c, d], _ => have := c.toNat_lt; have := d.toNat_lt; simp [num]; omega
theorem rsmall_small (s : ByteArray) (a : Nat) (bl : Bool) (ha : a ≤ s.size) :
    rsmall (s.extract a s.size) bl = ((small s a bl).1, s.extract (small s a bl).2.1 s.size, (small s a bl).2.2) := by
  have h1 := take_le s a bl 1 ha
  have h2 := num_one _ (take_len s a bl 1)
  unfold rsmall small
  rw [rtake_take s a bl 1 ha]
  dsimp only
  rw [show num (take s a bl 1).1.data.toList % 256 = num (take s a bl 1).1.data.toList from Nat.mod_eq_of_lt h2]
  exact rtake_take _ _ _ _ h1
theorem small_le (s : ByteArray) (a : Nat) (bl : Bool) (ha : a ≤ s.size) : (small s a bl).2.1 ≤ s.size := take_le _ _ _ _ (take_le _ _ _ _ ha)
end Go.Proofs.Ytpkgpffodkfncaa.Oct
