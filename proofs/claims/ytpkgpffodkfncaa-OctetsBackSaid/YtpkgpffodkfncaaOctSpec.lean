/- Plain functions: pens and eyes. -/
import Derived.Laws.BitsAllLaws
import Derived.IntWalk
namespace Go.Proofs.Ytpkgpffodkfncaa.Oct
/-- What is taken; where it stands then; is it blind. -/
def take (s : ByteArray) (a : Nat) (bl : Bool) (n : Int) : ByteArray × Nat × Bool :=
  if bl = true ∨ n < 0 ∨ (s.size : Int) - a < n then (⟨#[]⟩, a, true) else (s.extract a (a + n.toNat), a + n.toNat, false)
def num (l : List UInt8) : Nat := l.foldl (fun n c => (n * 256 + c.toNat) % 4294967296) 0
theorem num_lt (l : List UInt8) : num l < 4294967296 := by
  unfold num
  generalize h0 : (0 : Nat) = z
  have hz : z < 4294967296 := by omega
  clear h0
  induction l generalizing z with
  | nil => exact hz
  | cons c l ih => exact ih _ (Nat.mod_lt _ (by decide))
theorem num_snoc (l : List UInt8) (c : UInt8) : num (l ++ [c]) = (num l * 256 + c.toNat) % 4294967296 := by simp [num]
theorem take_le (s : ByteArray) (a : Nat) (bl : Bool) (n : Int) (h : a ≤ s.size) : (take s a bl n).2.1 ≤ s.size := by
  unfold take
  split
  · exact h
  · dsimp only; omega
/-- A byte with a length, and so many bytes. -/
def small (s : ByteArray) (a : Nat) (bl : Bool) : ByteArray × Nat × Bool :=
  take s (take s a bl 1).2.1 (take s a bl 1).2.2 ((num (take s a bl 1).1.data.toList % 256 : Nat) : Int)
/-- The reference's: what is taken; what is left; is it lost. -/
def rtake (s : ByteArray) (lost : Bool) (n : Int) : ByteArray × ByteArray × Bool :=
  if lost = true ∨ n < 0 ∨ (s.size : Int) < n then (⟨#[]⟩, s, true) else (s.extract 0 n.toNat, s.extract n.toNat s.size, false)
theorem rtake_size (s : ByteArray) (lost : Bool) (n : Int) : (rtake s lost n).1.size ≤ s.size := by
  unfold rtake
  split
  · exact Nat.zero_le _
  · rw [ByteArray.size_extract]; omega
theorem rtake_left (s : ByteArray) (lost : Bool) (n : Int) : (rtake s lost n).2.1.size ≤ s.size := by
  unfold rtake
  split
  · exact Nat.le_refl _
  · rw [ByteArray.size_extract]; omega
def rsmall (s : ByteArray) (lost : Bool) : ByteArray × ByteArray × Bool :=
  rtake (rtake s lost 1).2.1 (rtake s lost 1).2.2 ((num (rtake s lost 1).1.data.toList : Nat) : Int)
/-- A number's lowest k bytes, the highest one first. -/
def bts (n : Nat) : Nat → List UInt8
  | 0 => []
  | k + 1 => UInt8.ofNat (n / 256 ^ k % 256) :: bts n k
theorem bts_length (n k : Nat) : (bts n k).length = k := by
  induction k with
  | zero => rfl
  | succ k ih => simp [bts, ih]
theorem or_low (n c : Nat) (hc : c < 256) : bits .or .u32 ((n : Int) * 256 % 4294967296) (c : Int) = (((n * 256 + c) % 4294967296 : Nat) : Int) := by
  have := bits_join .u32 32 (by decide) (fun n h0 h1 => by rw [IntKind.wrap_u32]; omega) 8 ((n : Int) * 256 % 4294967296) (c : Int) (by omega) (by omega) (by omega) (by omega) (by omega) (by omega)
  rw [this]
  omega
theorem or_low2 (n c : Nat) (hc : c < 256) : bits .or .u32 ((n : Int) * 256 % 4294967296) ((c : Int) % 4294967296) = (((n * 256 + c) % 4294967296 : Nat) : Int) := by
  rw [show (c : Int) % 4294967296 = (c : Int) from by omega]
  exact or_low n c hc
end Go.Proofs.Ytpkgpffodkfncaa.Oct
