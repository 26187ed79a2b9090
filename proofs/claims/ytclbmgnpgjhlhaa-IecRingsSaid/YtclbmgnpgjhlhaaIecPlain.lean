/- What is put is got (plain). -/
import Derived.Test.YtclbmgnpgjhlhaaIecPut
import Derived.Test.YtclbmgnpgjhlhaaIecGet
namespace Go.Proofs.Ytclbmgnpgjhlhaa
open Go.RowKit
theorem beL_1 (v : Int) : (beL (beB 1 v) : Int) = v % 256 := by
  simp [beL, beB]
  omega
theorem beL_2 (v : Int) : (beL (beB 2 v) : Int) = v % 65536 := by
  simp [beL, beB]
  omega
theorem beL_4 (v : Int) : (beL (beB 4 v) : Int) = v % 4294967296 := by
  simp [beL, beB]
  omega
theorem back_bits (k : Nat) (hk : 1 ≤ k ∧ k ≤ 7) (v : Int) : wrapK k (beL (beB (sizeK k).toNat (wrapK k v)) : Int) = wrapK k v := by
  rcases (by omega : k = 1 ∨ k = 2 ∨ k = 3 ∨ k = 4 ∨ k = 5 ∨ k = 6 ∨ k = 7) with rfl | rfl | rfl | rfl | rfl | rfl | rfl
  · show wrapK 1 (beL (beB 1 _) : Int) = _
    rw [beL_1]
    simp only [wrapK]
    split <;> simp
  · show wrapK 2 (beL (beB 1 _) : Int) = _
    rw [beL_1]
    simp only [wrapK]
    omega
  · show wrapK 3 (beL (beB 2 _) : Int) = _
    rw [beL_2]
    simp only [wrapK]
    omega
  · show wrapK 4 (beL (beB 4 _) : Int) = _
    rw [beL_4]
    simp only [wrapK]
    omega
  · show wrapK 5 (beL (beB 2 _) : Int) = _
    rw [beL_2]
    simp only [wrapK]
    omega
  · show wrapK 6 (beL (beB 2 _) : Int) = _
    rw [beL_2]
    simp only [wrapK]
    omega
  · show wrapK 7 (beL (beB 4 _) : Int) = _
    rw [beL_4]
    simp only [wrapK]
    omega
theorem wrap_is (k : Nat) (hk : 1 ≤ k ∧ k ≤ 7) (v : Int) : isK k (wrapK k v) = true := by
  unfold isK
  rw [Bool.and_eq_true, decide_eq_true_eq, decide_eq_true_eq]
  refine ⟨by omega, ?_⟩
  rcases (by omega : k = 1 ∨ k = 2 ∨ k = 3 ∨ k = 4 ∨ k = 5 ∨ k = 6 ∨ k = 7) with rfl | rfl | rfl | rfl | rfl | rfl | rfl
  · simp only [wrapK]
    split <;> simp_all
  all_goals
    simp only [wrapK]
    omega
/-- A text as a row, all of it. -/
def textOf (l : List UInt8) : ByteArray := ⟨l.toArray⟩
theorem textOf_size (l : List UInt8) : (textOf l).size = l.length := by simp [textOf, ByteArray.size]
theorem textOf_all (l : List UInt8) (n : Nat) (h : n = l.length) : (⟨((l.drop 0).take n).toArray⟩ : ByteArray) = textOf l := by subst h; simp [textOf]
theorem get_put (s : ByteArray) (a k n : Nat) (hk : 1 ≤ k ∧ k ≤ 7) (v : Int) (hn : sizeK k = (n : Int)) (hfit : a + n ≤ s.size) : getV k (textOf (putAt s.data.toList a (beB n (wrapK k v)))) a n = wrapK k v := by
  have hb := back_bits k hk v
  rw [hn] at hb
  simp only [Int.toNat_natCast] at hb
  have hl : s.data.toList.length = s.size := by simp
  have hbl := beB_length n (wrapK k v)
  unfold getV
  have he : ((textOf (putAt s.data.toList a (beB n (wrapK k v)))).extract a (a + n)).data.toList = beB n (wrapK k v) := by
    simp only [textOf, putAt, ByteArray.data_extract, Array.toList_extract, List.extract]
    rw [List.append_assoc, List.drop_left' (by rw [List.length_take]; omega), List.take_left' (by omega)]
  rw [he]
  exact hb
theorem put_before (s : ByteArray) (a : Nat) (t : List UInt8) (hfit : a + t.length ≤ s.size) : (⟨(((putAt s.data.toList a t).drop 0).take a).toArray⟩ : ByteArray) = s.extract 0 a := by
  apply ext_bytes
  have hl : s.data.toList.length = s.size := by simp
  simp only [putAt, ByteArray.data_extract, Array.toList_extract, List.extract, List.drop_zero, Nat.sub_zero]
  rw [List.append_assoc, List.take_left' (by rw [List.length_take]; omega)]
theorem put_behind (s : ByteArray) (a n : Nat) (t : List UInt8) (ht : t.length = n) (hfit : a + n ≤ s.size) : (⟨(((putAt s.data.toList a t).drop (a + n)).take (s.size - (a + n))).toArray⟩ : ByteArray) = s.extract (a + n) s.size := by
  apply ext_bytes
  have hl : s.data.toList.length = s.size := by simp
  simp only [putAt, ByteArray.data_extract, Array.toList_extract, List.extract]
  rw [List.drop_left' (by rw [List.length_append, List.length_take]; omega), ht]
end Go.Proofs.Ytclbmgnpgjhlhaa
