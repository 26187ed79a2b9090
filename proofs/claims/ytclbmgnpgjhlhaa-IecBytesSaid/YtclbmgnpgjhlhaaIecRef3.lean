/- The document's May and Not (made by wip/mk_iecref.py). -/
import Derived.Test.YtclbmgnpgjhlhaaIecRef2
namespace Go.Proofs.Ytclbmgnpgjhlhaa
open Go.RowKit
set_option maxRecDepth 100000 in
set_option maxHeartbeats 1000000 in
theorem rmay_1 (op : Int) (w : World) : Calls Try.prog 19 #[.int .i64 op, .int .i64 1] w fun e w' => e = .returned (.bool (mayK op 1)) ∧ Below w.heap.size w w' := by
  rcases (by omega : op < 7 ∨ (7 ≤ op ∧ op ≤ 13) ∨ (14 ≤ op ∧ op ≤ 18) ∨ (19 ≤ op ∧ op ≤ 24) ∨ 24 < op) with ho | ⟨h1, h2⟩ | ⟨h1, h2⟩ | ⟨h1, h2⟩ | ho
  · have hm : mayK op 1 = false := by rw [mayK, if_neg (by decide), if_neg (by omega), if_neg (by omega)]; simp; omega
    rw [hm]
    clear hm
    have q0 : decide (14 ≤ op) = false := by simp; omega
    have q1 : decide (op ≤ 18) = true := by simp; omega
    have q2 : decide (7 ≤ op) = false := by simp; omega
    have q3 : decide (op ≤ 13) = true := by simp; omega
    have q4 : decide (19 ≤ op) = false := by simp; omega
    have q5 : decide (op ≤ 24) = true := by simp; omega
    have hb0 := Below.refl w.heap.size w
    go_enter Try.func19, Try.ntmps19
    go_wp2_with fail
    refine (rsize_1 _).mono ?_
    rintro e w1 ⟨rfl, hc1⟩
    have hb1 := bt hb0 hc1
    rw [show sizeK 1 = 1 from rfl]
    go_wp2
    go_ret
    exact ⟨rfl, hb1⟩
  · have hm : mayK op 1 = true := by rw [mayK, if_neg (by decide), if_pos ⟨by omega, by omega⟩]; rfl
    rw [hm]
    clear hm
    have q0 : decide (14 ≤ op) = false := by simp; omega
    have q1 : decide (op ≤ 18) = true := by simp; omega
    have q2 : decide (7 ≤ op) = true := by simp; omega
    have q3 : decide (op ≤ 13) = true := by simp; omega
    have q4 : decide (19 ≤ op) = false := by simp; omega
    have q5 : decide (op ≤ 24) = true := by simp; omega
    have hb0 := Below.refl w.heap.size w
    go_enter Try.func19, Try.ntmps19
    go_wp2_with fail
    refine (rsize_1 _).mono ?_
    rintro e w1 ⟨rfl, hc1⟩
    have hb1 := bt hb0 hc1
    rw [show sizeK 1 = 1 from rfl]
    go_wp2
    go_ret
    exact ⟨rfl, hb1⟩
  · have hm : mayK op 1 = false := by rw [mayK, if_neg (by decide), if_neg (by omega), if_pos ⟨by omega, by omega⟩]; rfl
    rw [hm]
    clear hm
    have q0 : decide (14 ≤ op) = true := by simp; omega
    have q1 : decide (op ≤ 18) = true := by simp; omega
    have q2 : decide (7 ≤ op) = true := by simp; omega
    have q3 : decide (op ≤ 13) = false := by simp; omega
    have q4 : decide (19 ≤ op) = false := by simp; omega
    have q5 : decide (op ≤ 24) = true := by simp; omega
    have hb0 := Below.refl w.heap.size w
    go_enter Try.func19, Try.ntmps19
    go_wp2_with fail
    refine (rsize_1 _).mono ?_
    rintro e w1 ⟨rfl, hc1⟩
    have hb1 := bt hb0 hc1
    rw [show sizeK 1 = 1 from rfl]
    go_wp2
    go_ret
    exact ⟨rfl, hb1⟩
  · have hm : mayK op 1 = true := by rw [mayK, if_neg (by decide), if_neg (by omega), if_neg (by omega)]; simp; omega
    rw [hm]
    clear hm
    have q0 : decide (14 ≤ op) = true := by simp; omega
    have q1 : decide (op ≤ 18) = false := by simp; omega
    have q2 : decide (7 ≤ op) = true := by simp; omega
    have q3 : decide (op ≤ 13) = false := by simp; omega
    have q4 : decide (19 ≤ op) = true := by simp; omega
    have q5 : decide (op ≤ 24) = true := by simp; omega
    have hb0 := Below.refl w.heap.size w
    go_enter Try.func19, Try.ntmps19
    go_wp2_with fail
    refine (rsize_1 _).mono ?_
    rintro e w1 ⟨rfl, hc1⟩
    have hb1 := bt hb0 hc1
    rw [show sizeK 1 = 1 from rfl]
    go_wp2
    go_ret
    exact ⟨rfl, hb1⟩
  · have hm : mayK op 1 = false := by rw [mayK, if_neg (by decide), if_neg (by omega), if_neg (by omega)]; simp; omega
    rw [hm]
    clear hm
    have q0 : decide (14 ≤ op) = true := by simp; omega
    have q1 : decide (op ≤ 18) = false := by simp; omega
    have q2 : decide (7 ≤ op) = true := by simp; omega
    have q3 : decide (op ≤ 13) = false := by simp; omega
    have q4 : decide (19 ≤ op) = true := by simp; omega
    have q5 : decide (op ≤ 24) = false := by simp; omega
    have hb0 := Below.refl w.heap.size w
    go_enter Try.func19, Try.ntmps19
    go_wp2_with fail
    refine (rsize_1 _).mono ?_
    rintro e w1 ⟨rfl, hc1⟩
    have hb1 := bt hb0 hc1
    rw [show sizeK 1 = 1 from rfl]
    go_wp2
    go_ret
    exact ⟨rfl, hb1⟩
set_option maxRecDepth 100000 in
set_option maxHeartbeats 1000000 in
theorem rmay_2 (op : Int) (w : World) : Calls Try.prog 19 #[.int .i64 op, .int .i64 2] w fun e w' => e = .returned (.bool (mayK op 2)) ∧ Below w.heap.size w w' := by
  rcases (by omega : op < 7 ∨ (7 ≤ op ∧ op ≤ 13) ∨ (14 ≤ op ∧ op ≤ 18) ∨ (19 ≤ op ∧ op ≤ 24) ∨ 24 < op) with ho | ⟨h1, h2⟩ | ⟨h1, h2⟩ | ⟨h1, h2⟩ | ho
  · have hm : mayK op 2 = false := by rw [mayK, if_neg (by decide), if_neg (by omega), if_neg (by omega)]; simp; omega
    rw [hm]
    clear hm
    have q0 : decide (14 ≤ op) = false := by simp; omega
    have q1 : decide (op ≤ 18) = true := by simp; omega
    have q2 : decide (7 ≤ op) = false := by simp; omega
    have q3 : decide (op ≤ 13) = true := by simp; omega
    have q4 : decide (19 ≤ op) = false := by simp; omega
    have q5 : decide (op ≤ 24) = true := by simp; omega
    have hb0 := Below.refl w.heap.size w
    go_enter Try.func19, Try.ntmps19
    go_wp2_with fail
    refine (rsize_2 _).mono ?_
    rintro e w1 ⟨rfl, hc1⟩
    have hb1 := bt hb0 hc1
    rw [show sizeK 2 = 1 from rfl]
    go_wp2
    go_ret
    exact ⟨rfl, hb1⟩
  · have hm : mayK op 2 = false := by rw [mayK, if_neg (by decide), if_pos ⟨by omega, by omega⟩]; rfl
    rw [hm]
    clear hm
    have q0 : decide (14 ≤ op) = false := by simp; omega
    have q1 : decide (op ≤ 18) = true := by simp; omega
    have q2 : decide (7 ≤ op) = true := by simp; omega
    have q3 : decide (op ≤ 13) = true := by simp; omega
    have q4 : decide (19 ≤ op) = false := by simp; omega
    have q5 : decide (op ≤ 24) = true := by simp; omega
    have hb0 := Below.refl w.heap.size w
    go_enter Try.func19, Try.ntmps19
    go_wp2_with fail
    refine (rsize_2 _).mono ?_
    rintro e w1 ⟨rfl, hc1⟩
    have hb1 := bt hb0 hc1
    rw [show sizeK 2 = 1 from rfl]
    go_wp2
    go_ret
    exact ⟨rfl, hb1⟩
  · have hm : mayK op 2 = true := by rw [mayK, if_neg (by decide), if_neg (by omega), if_pos ⟨by omega, by omega⟩]; rfl
    rw [hm]
    clear hm
    have q0 : decide (14 ≤ op) = true := by simp; omega
    have q1 : decide (op ≤ 18) = true := by simp; omega
    have q2 : decide (7 ≤ op) = true := by simp; omega
    have q3 : decide (op ≤ 13) = false := by simp; omega
    have q4 : decide (19 ≤ op) = false := by simp; omega
    have q5 : decide (op ≤ 24) = true := by simp; omega
    have hb0 := Below.refl w.heap.size w
    go_enter Try.func19, Try.ntmps19
    go_wp2_with fail
    refine (rsize_2 _).mono ?_
    rintro e w1 ⟨rfl, hc1⟩
    have hb1 := bt hb0 hc1
    rw [show sizeK 2 = 1 from rfl]
    go_wp2
    go_ret
    exact ⟨rfl, hb1⟩
  · have hm : mayK op 2 = true := by rw [mayK, if_neg (by decide), if_neg (by omega), if_neg (by omega)]; simp; omega
    rw [hm]
    clear hm
    have q0 : decide (14 ≤ op) = true := by simp; omega
    have q1 : decide (op ≤ 18) = false := by simp; omega
    have q2 : decide (7 ≤ op) = true := by simp; omega
    have q3 : decide (op ≤ 13) = false := by simp; omega
    have q4 : decide (19 ≤ op) = true := by simp; omega
    have q5 : decide (op ≤ 24) = true := by simp; omega
    have hb0 := Below.refl w.heap.size w
    go_enter Try.func19, Try.ntmps19
    go_wp2_with fail
    refine (rsize_2 _).mono ?_
    rintro e w1 ⟨rfl, hc1⟩
    have hb1 := bt hb0 hc1
    rw [show sizeK 2 = 1 from rfl]
    go_wp2
    go_ret
    exact ⟨rfl, hb1⟩
  · have hm : mayK op 2 = false := by rw [mayK, if_neg (by decide), if_neg (by omega), if_neg (by omega)]; simp; omega
    rw [hm]
    clear hm
    have q0 : decide (14 ≤ op) = true := by simp; omega
    have q1 : decide (op ≤ 18) = false := by simp; omega
    have q2 : decide (7 ≤ op) = true := by simp; omega
    have q3 : decide (op ≤ 13) = false := by simp; omega
    have q4 : decide (19 ≤ op) = true := by simp; omega
    have q5 : decide (op ≤ 24) = false := by simp; omega
    have hb0 := Below.refl w.heap.size w
    go_enter Try.func19, Try.ntmps19
    go_wp2_with fail
    refine (rsize_2 _).mono ?_
    rintro e w1 ⟨rfl, hc1⟩
    have hb1 := bt hb0 hc1
    rw [show sizeK 2 = 1 from rfl]
    go_wp2
    go_ret
    exact ⟨rfl, hb1⟩
set_option maxRecDepth 100000 in
set_option maxHeartbeats 1000000 in
theorem rmay_3 (op : Int) (w : World) : Calls Try.prog 19 #[.int .i64 op, .int .i64 3] w fun e w' => e = .returned (.bool (mayK op 3)) ∧ Below w.heap.size w w' := by
  rcases (by omega : op < 7 ∨ (7 ≤ op ∧ op ≤ 13) ∨ (14 ≤ op ∧ op ≤ 18) ∨ (19 ≤ op ∧ op ≤ 24) ∨ 24 < op) with ho | ⟨h1, h2⟩ | ⟨h1, h2⟩ | ⟨h1, h2⟩ | ho
  · have hm : mayK op 3 = false := by rw [mayK, if_neg (by decide), if_neg (by omega), if_neg (by omega)]; simp; omega
    rw [hm]
    clear hm
    have q0 : decide (14 ≤ op) = false := by simp; omega
    have q1 : decide (op ≤ 18) = true := by simp; omega
    have q2 : decide (7 ≤ op) = false := by simp; omega
    have q3 : decide (op ≤ 13) = true := by simp; omega
    have q4 : decide (19 ≤ op) = false := by simp; omega
    have q5 : decide (op ≤ 24) = true := by simp; omega
    have hb0 := Below.refl w.heap.size w
    go_enter Try.func19, Try.ntmps19
    go_wp2_with fail
    refine (rsize_3 _).mono ?_
    rintro e w1 ⟨rfl, hc1⟩
    have hb1 := bt hb0 hc1
    rw [show sizeK 3 = 2 from rfl]
    go_wp2
    go_ret
    exact ⟨rfl, hb1⟩
  · have hm : mayK op 3 = false := by rw [mayK, if_neg (by decide), if_pos ⟨by omega, by omega⟩]; rfl
    rw [hm]
    clear hm
    have q0 : decide (14 ≤ op) = false := by simp; omega
    have q1 : decide (op ≤ 18) = true := by simp; omega
    have q2 : decide (7 ≤ op) = true := by simp; omega
    have q3 : decide (op ≤ 13) = true := by simp; omega
    have q4 : decide (19 ≤ op) = false := by simp; omega
    have q5 : decide (op ≤ 24) = true := by simp; omega
    have hb0 := Below.refl w.heap.size w
    go_enter Try.func19, Try.ntmps19
    go_wp2_with fail
    refine (rsize_3 _).mono ?_
    rintro e w1 ⟨rfl, hc1⟩
    have hb1 := bt hb0 hc1
    rw [show sizeK 3 = 2 from rfl]
    go_wp2
    go_ret
    exact ⟨rfl, hb1⟩
  · have hm : mayK op 3 = true := by rw [mayK, if_neg (by decide), if_neg (by omega), if_pos ⟨by omega, by omega⟩]; rfl
    rw [hm]
    clear hm
    have q0 : decide (14 ≤ op) = true := by simp; omega
    have q1 : decide (op ≤ 18) = true := by simp; omega
    have q2 : decide (7 ≤ op) = true := by simp; omega
    have q3 : decide (op ≤ 13) = false := by simp; omega
    have q4 : decide (19 ≤ op) = false := by simp; omega
    have q5 : decide (op ≤ 24) = true := by simp; omega
    have hb0 := Below.refl w.heap.size w
    go_enter Try.func19, Try.ntmps19
    go_wp2_with fail
    refine (rsize_3 _).mono ?_
    rintro e w1 ⟨rfl, hc1⟩
    have hb1 := bt hb0 hc1
    rw [show sizeK 3 = 2 from rfl]
    go_wp2
    go_ret
    exact ⟨rfl, hb1⟩
  · have hm : mayK op 3 = true := by rw [mayK, if_neg (by decide), if_neg (by omega), if_neg (by omega)]; simp; omega
    rw [hm]
    clear hm
    have q0 : decide (14 ≤ op) = true := by simp; omega
    have q1 : decide (op ≤ 18) = false := by simp; omega
    have q2 : decide (7 ≤ op) = true := by simp; omega
    have q3 : decide (op ≤ 13) = false := by simp; omega
    have q4 : decide (19 ≤ op) = true := by simp; omega
    have q5 : decide (op ≤ 24) = true := by simp; omega
    have hb0 := Below.refl w.heap.size w
    go_enter Try.func19, Try.ntmps19
    go_wp2_with fail
    refine (rsize_3 _).mono ?_
    rintro e w1 ⟨rfl, hc1⟩
    have hb1 := bt hb0 hc1
    rw [show sizeK 3 = 2 from rfl]
    go_wp2
    go_ret
    exact ⟨rfl, hb1⟩
  · have hm : mayK op 3 = false := by rw [mayK, if_neg (by decide), if_neg (by omega), if_neg (by omega)]; simp; omega
    rw [hm]
    clear hm
    have q0 : decide (14 ≤ op) = true := by simp; omega
    have q1 : decide (op ≤ 18) = false := by simp; omega
    have q2 : decide (7 ≤ op) = true := by simp; omega
    have q3 : decide (op ≤ 13) = false := by simp; omega
    have q4 : decide (19 ≤ op) = true := by simp; omega
    have q5 : decide (op ≤ 24) = false := by simp; omega
    have hb0 := Below.refl w.heap.size w
    go_enter Try.func19, Try.ntmps19
    go_wp2_with fail
    refine (rsize_3 _).mono ?_
    rintro e w1 ⟨rfl, hc1⟩
    have hb1 := bt hb0 hc1
    rw [show sizeK 3 = 2 from rfl]
    go_wp2
    go_ret
    exact ⟨rfl, hb1⟩
set_option maxRecDepth 100000 in
set_option maxHeartbeats 1000000 in
theorem rmay_4 (op : Int) (w : World) : Calls Try.prog 19 #[.int .i64 op, .int .i64 4] w fun e w' => e = .returned (.bool (mayK op 4)) ∧ Below w.heap.size w w' := by
  rcases (by omega : op < 7 ∨ (7 ≤ op ∧ op ≤ 13) ∨ (14 ≤ op ∧ op ≤ 18) ∨ (19 ≤ op ∧ op ≤ 24) ∨ 24 < op) with ho | ⟨h1, h2⟩ | ⟨h1, h2⟩ | ⟨h1, h2⟩ | ho
  · have hm : mayK op 4 = false := by rw [mayK, if_neg (by decide), if_neg (by omega), if_neg (by omega)]; simp; omega
    rw [hm]
    clear hm
    have q0 : decide (14 ≤ op) = false := by simp; omega
    have q1 : decide (op ≤ 18) = true := by simp; omega
    have q2 : decide (7 ≤ op) = false := by simp; omega
    have q3 : decide (op ≤ 13) = true := by simp; omega
    have q4 : decide (19 ≤ op) = false := by simp; omega
    have q5 : decide (op ≤ 24) = true := by simp; omega
    have hb0 := Below.refl w.heap.size w
    go_enter Try.func19, Try.ntmps19
    go_wp2_with fail
    refine (rsize_4 _).mono ?_
    rintro e w1 ⟨rfl, hc1⟩
    have hb1 := bt hb0 hc1
    rw [show sizeK 4 = 4 from rfl]
    go_wp2
    go_ret
    exact ⟨rfl, hb1⟩
  · have hm : mayK op 4 = false := by rw [mayK, if_neg (by decide), if_pos ⟨by omega, by omega⟩]; rfl
    rw [hm]
    clear hm
    have q0 : decide (14 ≤ op) = false := by simp; omega
    have q1 : decide (op ≤ 18) = true := by simp; omega
    have q2 : decide (7 ≤ op) = true := by simp; omega
    have q3 : decide (op ≤ 13) = true := by simp; omega
    have q4 : decide (19 ≤ op) = false := by simp; omega
    have q5 : decide (op ≤ 24) = true := by simp; omega
    have hb0 := Below.refl w.heap.size w
    go_enter Try.func19, Try.ntmps19
    go_wp2_with fail
    refine (rsize_4 _).mono ?_
    rintro e w1 ⟨rfl, hc1⟩
    have hb1 := bt hb0 hc1
    rw [show sizeK 4 = 4 from rfl]
    go_wp2
    go_ret
    exact ⟨rfl, hb1⟩
  · have hm : mayK op 4 = true := by rw [mayK, if_neg (by decide), if_neg (by omega), if_pos ⟨by omega, by omega⟩]; rfl
    rw [hm]
    clear hm
    have q0 : decide (14 ≤ op) = true := by simp; omega
    have q1 : decide (op ≤ 18) = true := by simp; omega
    have q2 : decide (7 ≤ op) = true := by simp; omega
    have q3 : decide (op ≤ 13) = false := by simp; omega
    have q4 : decide (19 ≤ op) = false := by simp; omega
    have q5 : decide (op ≤ 24) = true := by simp; omega
    have hb0 := Below.refl w.heap.size w
    go_enter Try.func19, Try.ntmps19
    go_wp2_with fail
    refine (rsize_4 _).mono ?_
    rintro e w1 ⟨rfl, hc1⟩
    have hb1 := bt hb0 hc1
    rw [show sizeK 4 = 4 from rfl]
    go_wp2
    go_ret
    exact ⟨rfl, hb1⟩
  · have hm : mayK op 4 = true := by rw [mayK, if_neg (by decide), if_neg (by omega), if_neg (by omega)]; simp; omega
    rw [hm]
    clear hm
    have q0 : decide (14 ≤ op) = true := by simp; omega
    have q1 : decide (op ≤ 18) = false := by simp; omega
    have q2 : decide (7 ≤ op) = true := by simp; omega
    have q3 : decide (op ≤ 13) = false := by simp; omega
    have q4 : decide (19 ≤ op) = true := by simp; omega
    have q5 : decide (op ≤ 24) = true := by simp; omega
    have hb0 := Below.refl w.heap.size w
    go_enter Try.func19, Try.ntmps19
    go_wp2_with fail
    refine (rsize_4 _).mono ?_
    rintro e w1 ⟨rfl, hc1⟩
    have hb1 := bt hb0 hc1
    rw [show sizeK 4 = 4 from rfl]
    go_wp2
    go_ret
    exact ⟨rfl, hb1⟩
  · have hm : mayK op 4 = false := by rw [mayK, if_neg (by decide), if_neg (by omega), if_neg (by omega)]; simp; omega
    rw [hm]
    clear hm
    have q0 : decide (14 ≤ op) = true := by simp; omega
    have q1 : decide (op ≤ 18) = false := by simp; omega
    have q2 : decide (7 ≤ op) = true := by simp; omega
    have q3 : decide (op ≤ 13) = false := by simp; omega
    have q4 : decide (19 ≤ op) = true := by simp; omega
    have q5 : decide (op ≤ 24) = false := by simp; omega
    have hb0 := Below.refl w.heap.size w
    go_enter Try.func19, Try.ntmps19
    go_wp2_with fail
    refine (rsize_4 _).mono ?_
    rintro e w1 ⟨rfl, hc1⟩
    have hb1 := bt hb0 hc1
    rw [show sizeK 4 = 4 from rfl]
    go_wp2
    go_ret
    exact ⟨rfl, hb1⟩
set_option maxRecDepth 100000 in
set_option maxHeartbeats 1000000 in
theorem rmay_5 (op : Int) (w : World) : Calls Try.prog 19 #[.int .i64 op, .int .i64 5] w fun e w' => e = .returned (.bool (mayK op 5)) ∧ Below w.heap.size w w' := by
  rcases (by omega : op < 7 ∨ (7 ≤ op ∧ op ≤ 13) ∨ (14 ≤ op ∧ op ≤ 18) ∨ (19 ≤ op ∧ op ≤ 24) ∨ 24 < op) with ho | ⟨h1, h2⟩ | ⟨h1, h2⟩ | ⟨h1, h2⟩ | ho
  · have hm : mayK op 5 = false := by rw [mayK, if_neg (by decide), if_neg (by omega), if_neg (by omega)]; simp; omega
    rw [hm]
    clear hm
    have q0 : decide (14 ≤ op) = false := by simp; omega
    have q1 : decide (op ≤ 18) = true := by simp; omega
    have q2 : decide (7 ≤ op) = false := by simp; omega
    have q3 : decide (op ≤ 13) = true := by simp; omega
    have q4 : decide (19 ≤ op) = false := by simp; omega
    have q5 : decide (op ≤ 24) = true := by simp; omega
    have hb0 := Below.refl w.heap.size w
    go_enter Try.func19, Try.ntmps19
    go_wp2_with fail
    refine (rsize_5 _).mono ?_
    rintro e w1 ⟨rfl, hc1⟩
    have hb1 := bt hb0 hc1
    rw [show sizeK 5 = 2 from rfl]
    go_wp2
    go_ret
    exact ⟨rfl, hb1⟩
  · have hm : mayK op 5 = false := by rw [mayK, if_neg (by decide), if_pos ⟨by omega, by omega⟩]; rfl
    rw [hm]
    clear hm
    have q0 : decide (14 ≤ op) = false := by simp; omega
    have q1 : decide (op ≤ 18) = true := by simp; omega
    have q2 : decide (7 ≤ op) = true := by simp; omega
    have q3 : decide (op ≤ 13) = true := by simp; omega
    have q4 : decide (19 ≤ op) = false := by simp; omega
    have q5 : decide (op ≤ 24) = true := by simp; omega
    have hb0 := Below.refl w.heap.size w
    go_enter Try.func19, Try.ntmps19
    go_wp2_with fail
    refine (rsize_5 _).mono ?_
    rintro e w1 ⟨rfl, hc1⟩
    have hb1 := bt hb0 hc1
    rw [show sizeK 5 = 2 from rfl]
    go_wp2
    go_ret
    exact ⟨rfl, hb1⟩
  · have hm : mayK op 5 = true := by rw [mayK, if_neg (by decide), if_neg (by omega), if_pos ⟨by omega, by omega⟩]; rfl
    rw [hm]
    clear hm
    have q0 : decide (14 ≤ op) = true := by simp; omega
    have q1 : decide (op ≤ 18) = true := by simp; omega
    have q2 : decide (7 ≤ op) = true := by simp; omega
    have q3 : decide (op ≤ 13) = false := by simp; omega
    have q4 : decide (19 ≤ op) = false := by simp; omega
    have q5 : decide (op ≤ 24) = true := by simp; omega
    have hb0 := Below.refl w.heap.size w
    go_enter Try.func19, Try.ntmps19
    go_wp2_with fail
    refine (rsize_5 _).mono ?_
    rintro e w1 ⟨rfl, hc1⟩
    have hb1 := bt hb0 hc1
    rw [show sizeK 5 = 2 from rfl]
    go_wp2
    go_ret
    exact ⟨rfl, hb1⟩
  · have hm : mayK op 5 = true := by rw [mayK, if_neg (by decide), if_neg (by omega), if_neg (by omega)]; simp; omega
    rw [hm]
    clear hm
    have q0 : decide (14 ≤ op) = true := by simp; omega
    have q1 : decide (op ≤ 18) = false := by simp; omega
    have q2 : decide (7 ≤ op) = true := by simp; omega
    have q3 : decide (op ≤ 13) = false := by simp; omega
    have q4 : decide (19 ≤ op) = true := by simp; omega
    have q5 : decide (op ≤ 24) = true := by simp; omega
    have hb0 := Below.refl w.heap.size w
    go_enter Try.func19, Try.ntmps19
    go_wp2_with fail
    refine (rsize_5 _).mono ?_
    rintro e w1 ⟨rfl, hc1⟩
    have hb1 := bt hb0 hc1
    rw [show sizeK 5 = 2 from rfl]
    go_wp2
    go_ret
    exact ⟨rfl, hb1⟩
  · have hm : mayK op 5 = false := by rw [mayK, if_neg (by decide), if_neg (by omega), if_neg (by omega)]; simp; omega
    rw [hm]
    clear hm
    have q0 : decide (14 ≤ op) = true := by simp; omega
    have q1 : decide (op ≤ 18) = false := by simp; omega
    have q2 : decide (7 ≤ op) = true := by simp; omega
    have q3 : decide (op ≤ 13) = false := by simp; omega
    have q4 : decide (19 ≤ op) = true := by simp; omega
    have q5 : decide (op ≤ 24) = false := by simp; omega
    have hb0 := Below.refl w.heap.size w
    go_enter Try.func19, Try.ntmps19
    go_wp2_with fail
    refine (rsize_5 _).mono ?_
    rintro e w1 ⟨rfl, hc1⟩
    have hb1 := bt hb0 hc1
    rw [show sizeK 5 = 2 from rfl]
    go_wp2
    go_ret
    exact ⟨rfl, hb1⟩
set_option maxRecDepth 100000 in
set_option maxHeartbeats 1000000 in
theorem rmay_6 (op : Int) (w : World) : Calls Try.prog 19 #[.int .i64 op, .int .i64 6] w fun e w' => e = .returned (.bool (mayK op 6)) ∧ Below w.heap.size w w' := by
  rcases (by omega : op < 7 ∨ (7 ≤ op ∧ op ≤ 13) ∨ (14 ≤ op ∧ op ≤ 18) ∨ (19 ≤ op ∧ op ≤ 24) ∨ 24 < op) with ho | ⟨h1, h2⟩ | ⟨h1, h2⟩ | ⟨h1, h2⟩ | ho
  · have hm : mayK op 6 = false := by rw [mayK, if_neg (by decide), if_neg (by omega), if_neg (by omega)]; simp; omega
    rw [hm]
    clear hm
    have q0 : decide (14 ≤ op) = false := by simp; omega
    have q1 : decide (op ≤ 18) = true := by simp; omega
    have q2 : decide (7 ≤ op) = false := by simp; omega
    have q3 : decide (op ≤ 13) = true := by simp; omega
    have q4 : decide (19 ≤ op) = false := by simp; omega
    have q5 : decide (op ≤ 24) = true := by simp; omega
    have hb0 := Below.refl w.heap.size w
    go_enter Try.func19, Try.ntmps19
    go_wp2_with fail
    refine (rsize_6 _).mono ?_
    rintro e w1 ⟨rfl, hc1⟩
    have hb1 := bt hb0 hc1
    rw [show sizeK 6 = 2 from rfl]
    go_wp2
    go_ret
    exact ⟨rfl, hb1⟩
  · have hm : mayK op 6 = true := by rw [mayK, if_neg (by decide), if_pos ⟨by omega, by omega⟩]; rfl
    rw [hm]
    clear hm
    have q0 : decide (14 ≤ op) = false := by simp; omega
    have q1 : decide (op ≤ 18) = true := by simp; omega
    have q2 : decide (7 ≤ op) = true := by simp; omega
    have q3 : decide (op ≤ 13) = true := by simp; omega
    have q4 : decide (19 ≤ op) = false := by simp; omega
    have q5 : decide (op ≤ 24) = true := by simp; omega
    have hb0 := Below.refl w.heap.size w
    go_enter Try.func19, Try.ntmps19
    go_wp2_with fail
    refine (rsize_6 _).mono ?_
    rintro e w1 ⟨rfl, hc1⟩
    have hb1 := bt hb0 hc1
    rw [show sizeK 6 = 2 from rfl]
    go_wp2
    go_ret
    exact ⟨rfl, hb1⟩
  · have hm : mayK op 6 = false := by rw [mayK, if_neg (by decide), if_neg (by omega), if_pos ⟨by omega, by omega⟩]; rfl
    rw [hm]
    clear hm
    have q0 : decide (14 ≤ op) = true := by simp; omega
    have q1 : decide (op ≤ 18) = true := by simp; omega
    have q2 : decide (7 ≤ op) = true := by simp; omega
    have q3 : decide (op ≤ 13) = false := by simp; omega
    have q4 : decide (19 ≤ op) = false := by simp; omega
    have q5 : decide (op ≤ 24) = true := by simp; omega
    have hb0 := Below.refl w.heap.size w
    go_enter Try.func19, Try.ntmps19
    go_wp2_with fail
    refine (rsize_6 _).mono ?_
    rintro e w1 ⟨rfl, hc1⟩
    have hb1 := bt hb0 hc1
    rw [show sizeK 6 = 2 from rfl]
    go_wp2
    go_ret
    exact ⟨rfl, hb1⟩
  · have hm : mayK op 6 = true := by rw [mayK, if_neg (by decide), if_neg (by omega), if_neg (by omega)]; simp; omega
    rw [hm]
    clear hm
    have q0 : decide (14 ≤ op) = true := by simp; omega
    have q1 : decide (op ≤ 18) = false := by simp; omega
    have q2 : decide (7 ≤ op) = true := by simp; omega
    have q3 : decide (op ≤ 13) = false := by simp; omega
    have q4 : decide (19 ≤ op) = true := by simp; omega
    have q5 : decide (op ≤ 24) = true := by simp; omega
    have hb0 := Below.refl w.heap.size w
    go_enter Try.func19, Try.ntmps19
    go_wp2_with fail
    refine (rsize_6 _).mono ?_
    rintro e w1 ⟨rfl, hc1⟩
    have hb1 := bt hb0 hc1
    rw [show sizeK 6 = 2 from rfl]
    go_wp2
    go_ret
    exact ⟨rfl, hb1⟩
  · have hm : mayK op 6 = false := by rw [mayK, if_neg (by decide), if_neg (by omega), if_neg (by omega)]; simp; omega
    rw [hm]
    clear hm
    have q0 : decide (14 ≤ op) = true := by simp; omega
    have q1 : decide (op ≤ 18) = false := by simp; omega
    have q2 : decide (7 ≤ op) = true := by simp; omega
    have q3 : decide (op ≤ 13) = false := by simp; omega
    have q4 : decide (19 ≤ op) = true := by simp; omega
    have q5 : decide (op ≤ 24) = false := by simp; omega
    have hb0 := Below.refl w.heap.size w
    go_enter Try.func19, Try.ntmps19
    go_wp2_with fail
    refine (rsize_6 _).mono ?_
    rintro e w1 ⟨rfl, hc1⟩
    have hb1 := bt hb0 hc1
    rw [show sizeK 6 = 2 from rfl]
    go_wp2
    go_ret
    exact ⟨rfl, hb1⟩
set_option maxRecDepth 100000 in
set_option maxHeartbeats 1000000 in
theorem rmay_7 (op : Int) (w : World) : Calls Try.prog 19 #[.int .i64 op, .int .i64 7] w fun e w' => e = .returned (.bool (mayK op 7)) ∧ Below w.heap.size w w' := by
  rcases (by omega : op < 7 ∨ (7 ≤ op ∧ op ≤ 13) ∨ (14 ≤ op ∧ op ≤ 18) ∨ (19 ≤ op ∧ op ≤ 24) ∨ 24 < op) with ho | ⟨h1, h2⟩ | ⟨h1, h2⟩ | ⟨h1, h2⟩ | ho
  · have hm : mayK op 7 = false := by rw [mayK, if_neg (by decide), if_neg (by omega), if_neg (by omega)]; simp; omega
    rw [hm]
    clear hm
    have q0 : decide (14 ≤ op) = false := by simp; omega
    have q1 : decide (op ≤ 18) = true := by simp; omega
    have q2 : decide (7 ≤ op) = false := by simp; omega
    have q3 : decide (op ≤ 13) = true := by simp; omega
    have q4 : decide (19 ≤ op) = false := by simp; omega
    have q5 : decide (op ≤ 24) = true := by simp; omega
    have hb0 := Below.refl w.heap.size w
    go_enter Try.func19, Try.ntmps19
    go_wp2_with fail
    refine (rsize_7 _).mono ?_
    rintro e w1 ⟨rfl, hc1⟩
    have hb1 := bt hb0 hc1
    rw [show sizeK 7 = 4 from rfl]
    go_wp2
    go_ret
    exact ⟨rfl, hb1⟩
  · have hm : mayK op 7 = true := by rw [mayK, if_neg (by decide), if_pos ⟨by omega, by omega⟩]; rfl
    rw [hm]
    clear hm
    have q0 : decide (14 ≤ op) = false := by simp; omega
    have q1 : decide (op ≤ 18) = true := by simp; omega
    have q2 : decide (7 ≤ op) = true := by simp; omega
    have q3 : decide (op ≤ 13) = true := by simp; omega
    have q4 : decide (19 ≤ op) = false := by simp; omega
    have q5 : decide (op ≤ 24) = true := by simp; omega
    have hb0 := Below.refl w.heap.size w
    go_enter Try.func19, Try.ntmps19
    go_wp2_with fail
    refine (rsize_7 _).mono ?_
    rintro e w1 ⟨rfl, hc1⟩
    have hb1 := bt hb0 hc1
    rw [show sizeK 7 = 4 from rfl]
    go_wp2
    go_ret
    exact ⟨rfl, hb1⟩
  · have hm : mayK op 7 = false := by rw [mayK, if_neg (by decide), if_neg (by omega), if_pos ⟨by omega, by omega⟩]; rfl
    rw [hm]
    clear hm
    have q0 : decide (14 ≤ op) = true := by simp; omega
    have q1 : decide (op ≤ 18) = true := by simp; omega
    have q2 : decide (7 ≤ op) = true := by simp; omega
    have q3 : decide (op ≤ 13) = false := by simp; omega
    have q4 : decide (19 ≤ op) = false := by simp; omega
    have q5 : decide (op ≤ 24) = true := by simp; omega
    have hb0 := Below.refl w.heap.size w
    go_enter Try.func19, Try.ntmps19
    go_wp2_with fail
    refine (rsize_7 _).mono ?_
    rintro e w1 ⟨rfl, hc1⟩
    have hb1 := bt hb0 hc1
    rw [show sizeK 7 = 4 from rfl]
    go_wp2
    go_ret
    exact ⟨rfl, hb1⟩
  · have hm : mayK op 7 = true := by rw [mayK, if_neg (by decide), if_neg (by omega), if_neg (by omega)]; simp; omega
    rw [hm]
    clear hm
    have q0 : decide (14 ≤ op) = true := by simp; omega
    have q1 : decide (op ≤ 18) = false := by simp; omega
    have q2 : decide (7 ≤ op) = true := by simp; omega
    have q3 : decide (op ≤ 13) = false := by simp; omega
    have q4 : decide (19 ≤ op) = true := by simp; omega
    have q5 : decide (op ≤ 24) = true := by simp; omega
    have hb0 := Below.refl w.heap.size w
    go_enter Try.func19, Try.ntmps19
    go_wp2_with fail
    refine (rsize_7 _).mono ?_
    rintro e w1 ⟨rfl, hc1⟩
    have hb1 := bt hb0 hc1
    rw [show sizeK 7 = 4 from rfl]
    go_wp2
    go_ret
    exact ⟨rfl, hb1⟩
  · have hm : mayK op 7 = false := by rw [mayK, if_neg (by decide), if_neg (by omega), if_neg (by omega)]; simp; omega
    rw [hm]
    clear hm
    have q0 : decide (14 ≤ op) = true := by simp; omega
    have q1 : decide (op ≤ 18) = false := by simp; omega
    have q2 : decide (7 ≤ op) = true := by simp; omega
    have q3 : decide (op ≤ 13) = false := by simp; omega
    have q4 : decide (19 ≤ op) = true := by simp; omega
    have q5 : decide (op ≤ 24) = false := by simp; omega
    have hb0 := Below.refl w.heap.size w
    go_enter Try.func19, Try.ntmps19
    go_wp2_with fail
    refine (rsize_7 _).mono ?_
    rintro e w1 ⟨rfl, hc1⟩
    have hb1 := bt hb0 hc1
    rw [show sizeK 7 = 4 from rfl]
    go_wp2
    go_ret
    exact ⟨rfl, hb1⟩
set_option maxRecDepth 100000 in
set_option maxHeartbeats 1000000 in
theorem rmay_out (k : Int) (hk : k < 1 ∨ 7 < k) (op : Int) (w : World) : Calls Try.prog 19 #[.int .i64 op, .int .i64 k] w fun e w' => e = .returned (.bool (mayK op 0)) ∧ Below w.heap.size w w' := by
  rcases (by omega : op < 7 ∨ (7 ≤ op ∧ op ≤ 13) ∨ (14 ≤ op ∧ op ≤ 18) ∨ (19 ≤ op ∧ op ≤ 24) ∨ 24 < op) with ho | ⟨h1, h2⟩ | ⟨h1, h2⟩ | ⟨h1, h2⟩ | ho
  · have hm : mayK op 0 = false := rfl
    rw [hm]
    clear hm
    have q0 : decide (14 ≤ op) = false := by simp; omega
    have q1 : decide (op ≤ 18) = true := by simp; omega
    have q2 : decide (7 ≤ op) = false := by simp; omega
    have q3 : decide (op ≤ 13) = true := by simp; omega
    have q4 : decide (19 ≤ op) = false := by simp; omega
    have q5 : decide (op ≤ 24) = true := by simp; omega
    have hb0 := Below.refl w.heap.size w
    go_enter Try.func19, Try.ntmps19
    go_wp2_with fail
    refine (rsize_out k hk _).mono ?_
    rintro e w1 ⟨rfl, hc1⟩
    have hb1 := bt hb0 hc1
    rw [show sizeK 0 = 0 from rfl]
    go_wp2
    go_ret
    exact ⟨rfl, hb1⟩
  · have hm : mayK op 0 = false := rfl
    rw [hm]
    clear hm
    have q0 : decide (14 ≤ op) = false := by simp; omega
    have q1 : decide (op ≤ 18) = true := by simp; omega
    have q2 : decide (7 ≤ op) = true := by simp; omega
    have q3 : decide (op ≤ 13) = true := by simp; omega
    have q4 : decide (19 ≤ op) = false := by simp; omega
    have q5 : decide (op ≤ 24) = true := by simp; omega
    have hb0 := Below.refl w.heap.size w
    go_enter Try.func19, Try.ntmps19
    go_wp2_with fail
    refine (rsize_out k hk _).mono ?_
    rintro e w1 ⟨rfl, hc1⟩
    have hb1 := bt hb0 hc1
    rw [show sizeK 0 = 0 from rfl]
    go_wp2
    go_ret
    exact ⟨rfl, hb1⟩
  · have hm : mayK op 0 = false := rfl
    rw [hm]
    clear hm
    have q0 : decide (14 ≤ op) = true := by simp; omega
    have q1 : decide (op ≤ 18) = true := by simp; omega
    have q2 : decide (7 ≤ op) = true := by simp; omega
    have q3 : decide (op ≤ 13) = false := by simp; omega
    have q4 : decide (19 ≤ op) = false := by simp; omega
    have q5 : decide (op ≤ 24) = true := by simp; omega
    have hb0 := Below.refl w.heap.size w
    go_enter Try.func19, Try.ntmps19
    go_wp2_with fail
    refine (rsize_out k hk _).mono ?_
    rintro e w1 ⟨rfl, hc1⟩
    have hb1 := bt hb0 hc1
    rw [show sizeK 0 = 0 from rfl]
    go_wp2
    go_ret
    exact ⟨rfl, hb1⟩
  · have hm : mayK op 0 = false := rfl
    rw [hm]
    clear hm
    have q0 : decide (14 ≤ op) = true := by simp; omega
    have q1 : decide (op ≤ 18) = false := by simp; omega
    have q2 : decide (7 ≤ op) = true := by simp; omega
    have q3 : decide (op ≤ 13) = false := by simp; omega
    have q4 : decide (19 ≤ op) = true := by simp; omega
    have q5 : decide (op ≤ 24) = true := by simp; omega
    have hb0 := Below.refl w.heap.size w
    go_enter Try.func19, Try.ntmps19
    go_wp2_with fail
    refine (rsize_out k hk _).mono ?_
    rintro e w1 ⟨rfl, hc1⟩
    have hb1 := bt hb0 hc1
    rw [show sizeK 0 = 0 from rfl]
    go_wp2
    go_ret
    exact ⟨rfl, hb1⟩
  · have hm : mayK op 0 = false := rfl
    rw [hm]
    clear hm
    have q0 : decide (14 ≤ op) = true := by simp; omega
    have q1 : decide (op ≤ 18) = false := by simp; omega
    have q2 : decide (7 ≤ op) = true := by simp; omega
    have q3 : decide (op ≤ 13) = false := by simp; omega
    have q4 : decide (19 ≤ op) = true := by simp; omega
    have q5 : decide (op ≤ 24) = false := by simp; omega
    have hb0 := Below.refl w.heap.size w
    go_enter Try.func19, Try.ntmps19
    go_wp2_with fail
    refine (rsize_out k hk _).mono ?_
    rintro e w1 ⟨rfl, hc1⟩
    have hb1 := bt hb0 hc1
    rw [show sizeK 0 = 0 from rfl]
    go_wp2
    go_ret
    exact ⟨rfl, hb1⟩
theorem rmay_any (op k : Int) (w : World) : Calls Try.prog 19 #[.int .i64 op, .int .i64 k] w fun e w' => e = .returned (.bool (mayK op (kN k))) ∧ Below w.heap.size w w' := by
  rcases kN_cases k with rfl | rfl | rfl | rfl | rfl | rfl | rfl | ⟨hk, h0⟩
  · exact rmay_1 op w
  · exact rmay_2 op w
  · exact rmay_3 op w
  · exact rmay_4 op w
  · exact rmay_5 op w
  · exact rmay_6 op w
  · exact rmay_7 op w
  · rw [h0]; exact rmay_out k hk op w
end Go.Proofs.Ytclbmgnpgjhlhaa
