/- The laws of arithmetic on a kind's values (plain). -/
import Derived.Test.YtclbmgnpgjhlhaaIecDo
import Derived.Test.YtclbmgnpgjhlhaaIecPlain
namespace Go.Proofs.Ytclbmgnpgjhlhaa
open Go.RowKit
/-- A kind of arithmetic. -/
def RK (k : Nat) : Prop := k = 2 ∨ k = 3 ∨ k = 4 ∨ k = 5
theorem wrap_more {k : Nat} (h : RK k) (u t : Int) : wrapK k (u + manyK k * t) = wrapK k u := by
  rcases h with rfl | rfl | rfl | rfl <;> simp only [wrapK, manyK] <;> omega
theorem wrap_dec {k : Nat} (h : RK k) (u : Int) : ∃ t, wrapK k u = u + manyK k * t := by
  rcases h with rfl | rfl | rfl | rfl
  · exact ⟨-((u + 128) / 256), by simp only [wrapK, manyK]; omega⟩
  · exact ⟨-((u + 32768) / 65536), by simp only [wrapK, manyK]; omega⟩
  · exact ⟨-((u + 2147483648) / 4294967296), by simp only [wrapK, manyK]; omega⟩
  · exact ⟨-(u / 65536), by simp only [wrapK, manyK]; omega⟩
theorem wrap_same {k : Nat} (h : RK k) {u v t : Int} (e : u = v + manyK k * t) : wrapK k u = wrapK k v := by rw [e, wrap_more h]
theorem ring_add {k : Nat} (h : RK k) (a b c : Int) : wrapK k (wrapK k (a + b) + c) = wrapK k (a + wrapK k (b + c)) := by
  obtain ⟨s, hs⟩ := wrap_dec h (a + b)
  obtain ⟨t, ht⟩ := wrap_dec h (b + c)
  rw [hs, ht]
  refine wrap_same h (t := s - t) ?_
  rw [Int.mul_sub]
  omega
theorem ring_sub {k : Nat} (h : RK k) (a b : Int) (ha : wrapK k a = a) : wrapK k (wrapK k (a + b) - b) = a := by
  obtain ⟨s, hs⟩ := wrap_dec h (a + b)
  rw [hs, wrap_same h (v := a) (t := s) (by omega), ha]
theorem ring_mul {k : Nat} (h : RK k) (a b c : Int) : wrapK k (a * wrapK k (b + c)) = wrapK k (wrapK k (a * b) + wrapK k (a * c)) := by
  obtain ⟨s, hs⟩ := wrap_dec h (b + c)
  obtain ⟨t, ht⟩ := wrap_dec h (a * b)
  obtain ⟨u, hu⟩ := wrap_dec h (a * c)
  rw [hs, ht, hu]
  refine wrap_same h (t := a * s - t - u) ?_
  rw [Int.mul_add, Int.mul_add, Int.mul_sub, Int.mul_sub, Int.mul_left_comm]
  omega
theorem ring_quo {k : Nat} (h : RK k) (a b : Int) (ha : wrapK k a = a) : wrapK k (wrapK k (wrapK k (a.tdiv b) * b) + wrapK k (a.tmod b)) = a := by
  obtain ⟨s, hs⟩ := wrap_dec h (a.tdiv b)
  obtain ⟨t, ht⟩ := wrap_dec h (wrapK k (a.tdiv b) * b)
  obtain ⟨u, hu⟩ := wrap_dec h (a.tmod b)
  rw [ht, hu, hs]
  have e := Int.tmod_add_mul_tdiv a b
  rw [wrap_same h (v := a) (t := s * b + t + u) ?_, ha]
  rw [Int.add_mul, Int.mul_add, Int.mul_add, Int.mul_comm (a.tdiv b) b, Int.mul_assoc]
  omega
end Go.Proofs.Ytclbmgnpgjhlhaa
