/- The laws of logic on a kind's values (plain). -/
import Derived.Test.YtclbmgnpgjhlhaaIecDo
import Derived.Test.YtclbmgnpgjhlhaaIecPlain
namespace Go.Proofs.Ytclbmgnpgjhlhaa
open Go.RowKit
theorem tb_not (m x i : Nat) (h : x < 2 ^ m) : (2 ^ m - 1 - x).testBit i = (decide (i < m) && !x.testBit i) := by
  have : 2 ^ m - 1 - x = 2 ^ m - (x + 1) := by omega
  rw [this, Nat.testBit_two_pow_sub_succ h]
theorem tb_ge (m x i : Nat) (h : x < 2 ^ m) (hi : m ≤ i) : x.testBit i = false := Nat.testBit_lt_two_pow (Nat.lt_of_lt_of_le h (Nat.pow_le_pow_right (by decide) hi))
theorem nat_not_and (m a b : Nat) (ha : a < 2 ^ m) (hb : b < 2 ^ m) : 2 ^ m - 1 - (a &&& b) = (2 ^ m - 1 - a) ||| (2 ^ m - 1 - b) := by
  apply Nat.eq_of_testBit_eq
  intro i
  rw [tb_not m _ i (Nat.lt_of_le_of_lt Nat.and_le_left ha), Nat.testBit_or, tb_not m a i ha, tb_not m b i hb, Nat.testBit_and]
  cases a.testBit i <;> cases b.testBit i <;> cases decide (i < m) <;> rfl
theorem nat_xor_not (m a b : Nat) (ha : a < 2 ^ m) (hb : b < 2 ^ m) : a ^^^ (2 ^ m - 1 - b) = 2 ^ m - 1 - (a ^^^ b) := by
  apply Nat.eq_of_testBit_eq
  intro i
  rw [tb_not m _ i (Nat.xor_lt_two_pow ha hb), Nat.testBit_xor, Nat.testBit_xor, tb_not m b i hb]
  rcases Nat.lt_or_ge i m with h | h
  · cases a.testBit i <;> cases b.testBit i <;> simp [h]
  · have hn : ¬ i < m := by omega
    rw [tb_ge m a i ha h, tb_ge m b i hb h]
    simp [hn]
/-- A kind of logic, and its bits. -/
def LK (k m : Nat) : Prop := (k = 1 ∧ m = 1) ∨ (k = 6 ∧ m = 16) ∨ (k = 7 ∧ m = 32)
theorem wrap_nat {k m : Nat} (h : LK k m) (v : Int) : ∃ a : Nat, wrapK k v = (a : Int) ∧ a < 2 ^ m := by
  rcases h with ⟨rfl, rfl⟩ | ⟨rfl, rfl⟩ | ⟨rfl, rfl⟩
  · refine ⟨if v = 0 then 0 else 1, ?_, ?_⟩
    · simp only [wrapK]
      split <;> rfl
    · split <;> decide
  · exact ⟨(v % 65536).toNat, by simp only [wrapK]; omega, by omega⟩
  · exact ⟨(v % 4294967296).toNat, by simp only [wrapK]; omega, by omega⟩
theorem is_nat {k m : Nat} (h : LK k m) (a : Nat) (ha : a < 2 ^ m) : isK k (a : Int) = true := by
  rw [isK_range, decide_eq_true_eq]
  rcases h with ⟨rfl, rfl⟩ | ⟨rfl, rfl⟩ | ⟨rfl, rfl⟩ <;> simp only [leastK, manyK] <;> omega
theorem not_nat {k m : Nat} (h : LK k m) (a : Nat) (ha : a < 2 ^ m) : notK k (a : Int) = ((2 ^ m - 1 - a : Nat) : Int) := by
  have hi := is_nat h a ha
  unfold notK
  have hb : bitsK k = true := by rcases h with ⟨rfl, rfl⟩ | ⟨rfl, rfl⟩ | ⟨rfl, rfl⟩ <;> rfl
  rw [if_pos ⟨hb, hi⟩]
  rcases h with ⟨rfl, rfl⟩ | ⟨rfl, rfl⟩ | ⟨rfl, rfl⟩ <;> simp only [manyK] <;> omega
theorem may_nat {k m : Nat} (h : LK k m) (op : Int) (ho : 7 ≤ op ∧ op ≤ 12 ∨ 19 ≤ op ∧ op ≤ 24) : mayK op k = true := by
  have hb : bitsK k = true := by rcases h with ⟨rfl, rfl⟩ | ⟨rfl, rfl⟩ | ⟨rfl, rfl⟩ <;> rfl
  have h0 : k ≠ 0 := by rcases h with ⟨rfl, rfl⟩ | ⟨rfl, rfl⟩ | ⟨rfl, rfl⟩ <;> decide
  unfold mayK
  rw [if_neg h0, hb]
  rcases ho with ho | ho
  · rw [if_pos (by omega)]
  · rw [if_neg (by omega), if_neg (by omega)]
    simpa using ho
/-- What the law's closure hands back. -/
def lgV (op : Int) (k : Nat) (a b : Int) : Int := if doE op k a b = 0 then doV op k a b else -1
theorem lg_nat {k m : Nat} (h : LK k m) (op : Int) (ho : 7 ≤ op ∧ op ≤ 12 ∨ 19 ≤ op ∧ op ≤ 24) (a b : Nat) (ha : a < 2 ^ m) (hb : b < 2 ^ m) : lgV op k a b = doR op k a b := by
  have he : doE op k a b = 0 := by
    unfold doE
    rw [if_neg (by rw [may_nat h op ho]; simp; omega), if_neg (by rw [is_nat h a ha, is_nat h b hb]; simp)]
  unfold lgV doV
  rw [if_pos he, if_pos he]
theorem lg_bit {k m : Nat} (h : LK k m) (op : Int) (ho : 7 ≤ op ∧ op ≤ 9) (a b : Nat) (ha : a < 2 ^ m) (hb : b < 2 ^ m) : lgV op k a b = ((opN op a b : Nat) : Int) := by
  rw [lg_nat h op (by omega) a b ha hb]
  unfold doR
  repeat rw [if_neg (by omega)]
  simp
theorem lg_bitn {k m : Nat} (h : LK k m) (op : Int) (ho : 10 ≤ op ∧ op ≤ 12) (a b : Nat) (ha : a < 2 ^ m) (hb : b < 2 ^ m) : lgV op k a b = ((opN (op - 3) a (2 ^ m - 1 - b) : Nat) : Int) := by
  rw [lg_nat h op (by omega) a b ha hb]
  unfold doR
  iterate 11 rw [if_neg (by omega)]
  rw [if_pos (by omega), not_nat h b hb]
  simp
theorem opN_ltm (op : Int) (m a b : Nat) (ha : a < 2 ^ m) (hb : b < 2 ^ m) : opN op a b < 2 ^ m := by
  unfold opN
  split
  · exact Nat.or_lt_two_pow ha hb
  split
  · exact Nat.xor_lt_two_pow ha hb
  · exact Nat.lt_of_le_of_lt Nat.and_le_left ha
/-- All that the law IecLogic asks. -/
theorem logic_all {k m : Nat} (h : LK k m) (a b : Nat) (ha : a < 2 ^ m) (hb : b < 2 ^ m) :
    notK k (notK k a) = a ∧ notK k (lgV 7 k a b) = lgV 8 k (notK k a) (notK k b) ∧ lgV 9 k (lgV 9 k a b) b = a
    ∧ lgV 10 k a b = lgV 7 k a (notK k b) ∧ lgV 11 k a b = lgV 8 k a (notK k b) ∧ lgV 12 k a b = notK k (lgV 9 k a b) := by
  have hna : 2 ^ m - 1 - a < 2 ^ m := by omega
  have hnb : 2 ^ m - 1 - b < 2 ^ m := by omega
  have o7 : ∀ x y, opN 7 x y = x &&& y := fun _ _ => rfl
  have o8 : ∀ x y, opN 8 x y = x ||| y := fun _ _ => rfl
  have o9 : ∀ x y, opN 9 x y = x ^^^ y := fun _ _ => rfl
  refine ⟨?_, ?_, ?_, ?_, ?_, ?_⟩
  · rw [not_nat h a ha, not_nat h _ hna]
    omega
  · rw [lg_bit h 7 (by omega) a b ha hb, not_nat h _ (opN_ltm _ m a b ha hb), not_nat h a ha, not_nat h b hb, lg_bit h 8 (by omega) _ _ hna hnb, o7, o8, nat_not_and m a b ha hb]
  · rw [lg_bit h 9 (by omega) a b ha hb, lg_bit h 9 (by omega) _ _ (opN_ltm _ m a b ha hb) hb, o9, o9, Nat.xor_assoc, Nat.xor_self, Nat.xor_zero]
  · rw [lg_bitn h 10 (by omega) a b ha hb, not_nat h b hb, lg_bit h 7 (by omega) _ _ ha hnb]
    rfl
  · rw [lg_bitn h 11 (by omega) a b ha hb, not_nat h b hb, lg_bit h 8 (by omega) _ _ ha hnb]
    rfl
  · rw [lg_bitn h 12 (by omega) a b ha hb, lg_bit h 9 (by omega) a b ha hb, not_nat h _ (opN_ltm _ m a b ha hb), o9, ← nat_xor_not m a b ha hb]
    rfl
theorem logic_order {k m : Nat} (h : LK k m) (a b : Nat) (ha : a < 2 ^ m) (hb : b < 2 ^ m) :
    lgV 19 k a b + lgV 23 k a b = 1 ∧ lgV 24 k a b + lgV 20 k a b = 1 ∧ lgV 21 k a b + lgV 22 k a b = 1 ∧ lgV 19 k a b = lgV 24 k b a
    ∧ (lgV 19 k a b = 0 ∨ lgV 19 k a b = 1) ∧ (lgV 24 k a b = 0 ∨ lgV 24 k a b = 1) ∧ (lgV 21 k a b = 0 ∨ lgV 21 k a b = 1) := by
  rw [lg_nat h 19 (by omega) a b ha hb, lg_nat h 23 (by omega) a b ha hb, lg_nat h 24 (by omega) a b ha hb, lg_nat h 20 (by omega) a b ha hb, lg_nat h 21 (by omega) a b ha hb, lg_nat h 22 (by omega) a b ha hb, lg_nat h 24 (by omega) b a hb ha]
  have e19 : doR 19 k a b = yesV ((a : Int) > b) := by unfold doR; simp
  have e20 : doR 20 k a b = yesV ((a : Int) ≥ b) := by unfold doR; simp
  have e21 : doR 21 k a b = yesV ((a : Int) = b) := by unfold doR; simp
  have e22 : doR 22 k a b = yesV ((a : Int) ≠ b) := by unfold doR; simp
  have e23 : doR 23 k a b = yesV ((a : Int) ≤ b) := by unfold doR; simp
  have e24 : doR 24 k a b = yesV ((a : Int) < b) := by unfold doR; simp
  have e25 : doR 24 k b a = yesV ((b : Int) < a) := by unfold doR; simp
  rw [e19, e20, e21, e22, e23, e24, e25]
  unfold yesV
  refine ⟨?_, ?_, ?_, ?_, ?_, ?_, ?_⟩ <;> split <;> first | omega | (split <;> omega)
end Go.Proofs.Ytclbmgnpgjhlhaa
