/- The reference's number. -/
import Derived.Test.YtmehafolnpkmhaaDoorFraEye
namespace Go.Proofs.YtmehafolnpkmhaaDoor
open Go.RowKit
theorem rtake_in (s : ByteArray) (n : Nat) (h : n ≤ s.size) : Oct.rtake s false (n : Int) = (s.extract 0 n, s.extract n s.size, false) := by
  unfold Oct.rtake
  rw [if_neg (by simp; omega)]
  simp
theorem num_in (s : ByteArray) (a n : Nat) (h : a + n ≤ s.size) : Oct.num ((s.extract a s.size).extract 0 n).data.toList = nb s a n := by
  unfold nb
  rw [ByteArray.extract_extract, Nat.add_zero, Nat.min_eq_left (by omega)]
set_option maxRecDepth 100000 in
theorem number_in (s : ByteArray) (a n : Nat) (hs : s.size ≤ maxLen) (h : a + n ≤ s.size) (w : World) :
    Calls Tryd.prog 96 #[.string s, .int .i64 (a : Int), .int .i64 (n : Int)] w fun e w' => e = .returned (.int .u32 (nb s a n : Nat)) ∧ Below w.heap.size w w' := by
  have ha : (a : Int) ≤ (s.size : Int) := by omega
  have hm := hs
  unfold maxLen at hm
  have hn : (n : Int) ≤ 9223372036854775807 := by omega
  have hx : (s.extract a s.size).size = s.size - a := by rw [ByteArray.size_extract, Nat.min_self]
  have HC := reyeNumber_any w.heap.size (s.extract a s.size) false (n : Int) (by rw [hx]; omega) (w.alloc (.cells #[.string (s.extract a s.size), .bool false] 128)) (ObjAt.new w _ _)
  rw [rtake_in _ n (by rw [hx]; omega)] at HC
  simp only at HC
  rw [num_in s a n h] at HC
  generalize nb s a n = v at *
  have H := Lib.hid HC
  clear HC
  go_enter Tryd.func96, Tryd.ntmps96
  go_wp2_with fail
  refine H.out.mono ?_
  rintro e w1 ⟨rfl, he, hk⟩
  go_wp2
  go_ret
  refine ⟨rfl, ?_⟩
  · exact ((Below.refl w.heap.size w).alloc (Nat.le_refl _) _).trans (hk.below (by simp) (by intro j h1 h2; omega))
end Go.Proofs.YtmehafolnpkmhaaDoor
