/- Are a kind's bytes there? The program's and the document's, walked. -/
import Derived.Test.YtclbmgnpgjhlhaaIecRef2
import Derived.Test.YtclbmgnpgjhlhaaBytes
namespace Go.Proofs.Ytclbmgnpgjhlhaa
open Go.RowKit
def thereB (L a n : Int) : Bool := decide (0 < n ∧ 0 ≤ a ∧ a ≤ L ∧ n ≤ L - a)
theorem sizeK_bd (k : Nat) : 0 ≤ sizeK k ∧ sizeK k ≤ 4 := by unfold sizeK; split <;> decide
def RetB (x : Bool) (w : World) (e : Ending) (w' : World) : Prop := e = .returned (.bool x) ∧ Below w.heap.size w w'
theorem RetB.mk {x y : Bool} {w w' : World} (h : x = y) (hb : Below w.heap.size w w') : RetB x w (.returned (.bool y)) w' := by subst h; exact ⟨rfl, hb⟩
set_option maxRecDepth 100000 in
theorem there_any (L a k : Int) (hL : 0 ≤ L ∧ L ≤ 140737488355328) (ha : -9223372036854775808 ≤ a ∧ a ≤ 9223372036854775807) (w : World) : Calls Try.prog 52 #[.int .i64 L, .int .i64 a, .int .i64 k] w (RetB (thereB L a (sizeK (kN k))) w) := by
  have hbd := sizeK_bd (kN k)
  obtain ⟨n, hn⟩ : ∃ n, n = sizeK (kN k) := ⟨_, rfl⟩
  rw [← hn] at hbd ⊢
  have HN := Lib.hid hn
  clear hn
  by_cases h1 : 0 < n
  · by_cases h2 : 0 ≤ a
    · by_cases h3 : a ≤ L
      · by_cases h4 : n ≤ L - a
        · have ht : thereB L a n = true := by simp [thereB] <;> omega
          have HT := Lib.hid ht
          clear ht
          go_enter Try.func52, Try.ntmps52
          go_wp2_with (refine (size_any k _).mono ?_; rintro e w1 ⟨rfl, hb1⟩; rw [← HN.out])
          go_ret
          exact RetB.mk (by (rw [HT.out]) <;> (simp <;> omega)) hb1
        · have ht : thereB L a n = false := by simp [thereB] <;> omega
          have HT := Lib.hid ht
          clear ht
          go_enter Try.func52, Try.ntmps52
          go_wp2_with (refine (size_any k _).mono ?_; rintro e w1 ⟨rfl, hb1⟩; rw [← HN.out])
          go_ret
          exact RetB.mk (by (rw [HT.out]) <;> (simp <;> omega)) hb1
      · have ht : thereB L a n = false := by simp [thereB] <;> omega
        have HT := Lib.hid ht
        clear ht
        go_enter Try.func52, Try.ntmps52
        go_wp2_with (refine (size_any k _).mono ?_; rintro e w1 ⟨rfl, hb1⟩; rw [← HN.out])
        go_ret
        exact RetB.mk (by (rw [HT.out]) <;> (simp <;> omega)) hb1
    · have ht : thereB L a n = false := by simp [thereB] <;> omega
      have HT := Lib.hid ht
      clear ht
      go_enter Try.func52, Try.ntmps52
      go_wp2_with (refine (size_any k _).mono ?_; rintro e w1 ⟨rfl, hb1⟩; rw [← HN.out])
      go_ret
      exact RetB.mk (by (rw [HT.out]) <;> (simp <;> omega)) hb1
  · have ht : thereB L a n = false := by simp [thereB] <;> omega
    have HT := Lib.hid ht
    clear ht
    go_enter Try.func52, Try.ntmps52
    go_wp2_with (refine (size_any k _).mono ?_; rintro e w1 ⟨rfl, hb1⟩; rw [← HN.out])
    go_ret
    exact RetB.mk (by (rw [HT.out]) <;> (simp <;> omega)) hb1
set_option maxRecDepth 100000 in
theorem rthere_any (L a k : Int) (hL : 0 ≤ L ∧ L ≤ 140737488355328) (ha : -9223372036854775808 ≤ a ∧ a ≤ 9223372036854775807) (w : World) : Calls Try.prog 20 #[.int .i64 L, .int .i64 a, .int .i64 k] w (RetB (thereB L a (sizeK (kN k))) w) := by
  have hbd := sizeK_bd (kN k)
  obtain ⟨n, hn⟩ : ∃ n, n = sizeK (kN k) := ⟨_, rfl⟩
  rw [← hn] at hbd ⊢
  have HN := Lib.hid hn
  clear hn
  by_cases h1 : 0 < n
  · by_cases h2 : 0 ≤ a
    · by_cases h3 : a ≤ L
      · by_cases h4 : n ≤ L - a
        · have ht : thereB L a n = true := by simp [thereB] <;> omega
          have HT := Lib.hid ht
          clear ht
          go_enter Try.func20, Try.ntmps20
          go_wp2_with (refine (rsize_any k _).mono ?_; rintro e w1 ⟨rfl, hb1⟩; rw [← HN.out])
          go_ret
          exact RetB.mk (by (rw [HT.out]) <;> (simp <;> omega)) hb1
        · have ht : thereB L a n = false := by simp [thereB] <;> omega
          have HT := Lib.hid ht
          clear ht
          go_enter Try.func20, Try.ntmps20
          go_wp2_with (refine (rsize_any k _).mono ?_; rintro e w1 ⟨rfl, hb1⟩; rw [← HN.out])
          go_ret
          exact RetB.mk (by (rw [HT.out]) <;> (simp <;> omega)) hb1
      · have ht : thereB L a n = false := by simp [thereB] <;> omega
        have HT := Lib.hid ht
        clear ht
        go_enter Try.func20, Try.ntmps20
        go_wp2_with (refine (rsize_any k _).mono ?_; rintro e w1 ⟨rfl, hb1⟩; rw [← HN.out])
        go_ret
        exact RetB.mk (by (rw [HT.out]) <;> (simp <;> omega)) hb1
    · have ht : thereB L a n = false := by simp [thereB] <;> omega
      have HT := Lib.hid ht
      clear ht
      go_enter Try.func20, Try.ntmps20
      go_wp2_with (refine (rsize_any k _).mono ?_; rintro e w1 ⟨rfl, hb1⟩; rw [← HN.out])
      go_ret
      exact RetB.mk (by (rw [HT.out]) <;> (simp <;> omega)) hb1
  · have ht : thereB L a n = false := by simp [thereB] <;> omega
    have HT := Lib.hid ht
    clear ht
    go_enter Try.func20, Try.ntmps20
    go_wp2_with (refine (rsize_any k _).mono ?_; rintro e w1 ⟨rfl, hb1⟩; rw [← HN.out])
    go_ret
    exact RetB.mk (by (rw [HT.out]) <;> (simp <;> omega)) hb1
end Go.Proofs.Ytclbmgnpgjhlhaa
