/- Sums, shifts and repetitions of samples (plain). -/
import Derived.Test.YtkeeledkdoiglaaPhaSpec
namespace Go.Proofs.Ytkeeledkdoiglaa
theorem turnZ_add (z : Int × Int) (a b : Int) : turnZ (turnZ z a) b = turnZ z (a + b) := by
  unfold turnZ
  rcases (by omega : a % 4 = 0 ∨ a % 4 = 1 ∨ a % 4 = 2 ∨ a % 4 = 3) with h | h | h | h <;> rcases (by omega : b % 4 = 0 ∨ b % 4 = 1 ∨ b % 4 = 2 ∨ b % 4 = 3) with k | k | k | k
  all_goals
    have e : (a + b) % 4 = (a % 4 + b % 4) % 4 := by omega
    rw [e, h, k]
    simp
theorem turnZ_addZ (a b : Int × Int) (n : Int) : turnZ (addZ a b) n = addZ (turnZ a n) (turnZ b n) := by
  unfold turnZ addZ
  split
  · rfl
  split
  · simp; omega
  split
  · simp; omega
  · simp; omega
theorem turnZ_zero (n : Int) : turnZ (0, 0) n = (0, 0) := by unfold turnZ; simp
theorem addZ_comm4 (a b c d : Int × Int) : addZ (addZ a b) (addZ c d) = addZ (addZ a c) (addZ b d) := by
  unfold addZ; ext <;> simp <;> omega
theorem addZ_zero (a : Int × Int) : addZ a (0, 0) = a := by unfold addZ; simp
theorem zero_addZ (a : Int × Int) : addZ (0, 0) a = a := by unfold addZ; simp
theorem addZ_assoc (a b c : Int × Int) : addZ (addZ a b) c = addZ a (addZ b c) := by unfold addZ; ext <;> simp <;> omega
/-- Bins of sums are sums of bins. -/
theorem binZ_sum (l m : List Int) (hl : l.length = m.length) (hb : ∀ x ∈ l, -100000 ≤ x ∧ x ≤ 100000) (hc : ∀ x ∈ m, -100000 ≤ x ∧ x ≤ 100000) (k : Int) (n : Nat) (hn : n ≤ l.length) :
    binZ (List.zipWith (· + ·) l m) k n = addZ (binZ l k n) (binZ m k n) := by
  induction n with
  | zero => simp [binZ, addZ]
  | succ n ih =>
    have h1 : n < l.length := by omega
    have h2 : n < m.length := by omega
    have e1 : l.getD n 0 = l[n] := by simp [List.getD_eq_getElem?_getD, h1]
    have e2 : m.getD n 0 = m[n] := by simp [List.getD_eq_getElem?_getD, h2]
    have e3 : (List.zipWith (· + ·) l m).getD n 0 = l[n] + m[n] := by simp [List.getD_eq_getElem?_getD, List.getElem?_zipWith, h1, h2]
    have b1 := hb _ (List.getElem_mem h1)
    have b2 := hc _ (List.getElem_mem h2)
    rw [binZ, binZ, binZ, ih (by omega), e1, e2, e3, addZ_comm4]
    congr 1
    rw [smallZ_id (by omega), smallZ_id (by omega), smallZ_id (by omega), ← turnZ_addZ]
    rfl
/-- Samples that come one later have bins that are turned. -/
theorem binZ_later (l : List Int) (k : Int) (n : Nat) (hn : n ≤ l.length) : binZ (0 :: l) k (n + 1) = turnZ (binZ l k n) (-(k % 4)) := by
  induction n with
  | zero =>
    have e : smallZ 0 = 0 := by decide
    simp [binZ, addZ, turnZ, e]
  | succ n ih =>
    rw [binZ, ih (by omega)]
    conv => rhs; rw [binZ]
    rw [turnZ_addZ, turnZ_add]
    congr 1
    have e : (0 :: l).getD (n + 1) 0 = l.getD n 0 := by simp [List.getD_eq_getElem?_getD]
    rw [e]
    apply turnZ_mod
    have h0 := Int.emod_nonneg k (show (4 : Int) ≠ 0 by decide)
    have h1 := Int.emod_lt_of_pos k (show (0 : Int) < 4 by decide)
    generalize k % 4 = y at *
    rcases (by omega : y = 0 ∨ y = 1 ∨ y = 2 ∨ y = 3) with rfl | rfl | rfl | rfl <;> omega
theorem binZ_take (l m : List Int) (k : Int) (n : Nat) (hn : n ≤ l.length) : binZ (l ++ m) k n = binZ l k n := by
  induction n with
  | zero => rfl
  | succ n ih =>
    rw [binZ, binZ, ih (by omega)]
    congr 3
    simp [List.getD_eq_getElem?_getD, List.getElem?_append_left (show n < l.length by omega)]
theorem binZ_append (l m : List Int) (h4 : l.length % 4 = 0) (k : Int) (n : Nat) (hn : n ≤ m.length) : binZ (l ++ m) k (l.length + n) = addZ (binZ l k l.length) (binZ m k n) := by
  induction n with
  | zero => rw [Nat.add_zero, binZ_take l m k _ (Nat.le_refl _), binZ, addZ_zero]
  | succ n ih =>
    rw [← Nat.add_assoc, binZ, ih (by omega), binZ, addZ_assoc]
    congr 2
    have e : (l ++ m).getD (l.length + n) 0 = m.getD n 0 := by
      rw [List.getD_eq_getElem?_getD, List.getD_eq_getElem?_getD, List.getElem?_append_right (by omega)]
      congr 2
      omega
    rw [e]
    have e4 : ((l.length + n : Nat) : Int) % 4 = (n : Int) % 4 := by omega
    rw [e4]
/-- Four times as long the same again: four times the bin. -/
theorem binZ_four (l : List Int) (h4 : l.length % 4 = 0) (k : Int) :
    binZ (((l ++ l) ++ l) ++ l) k (l.length * 4) = (4 * (binZ l k l.length).1, 4 * (binZ l k l.length).2) := by
  have e1 := binZ_append l l h4 k l.length (Nat.le_refl _)
  have e2 := binZ_append (l ++ l) l (by simp; omega) k l.length (Nat.le_refl _)
  have e3 := binZ_append ((l ++ l) ++ l) l (by simp; omega) k l.length (Nat.le_refl _)
  rw [show (l ++ l).length = l.length + l.length by simp, e1] at e2
  rw [show ((l ++ l) ++ l).length = l.length + l.length + l.length by simp; omega, e2] at e3
  rw [show l.length * 4 = l.length + l.length + l.length + l.length by omega, e3]
  unfold addZ
  ext <;> simp <;> omega
end Go.Proofs.Ytkeeledkdoiglaa
