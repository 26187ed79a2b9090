/- Is, May, Not; every function of a kind for every number (made by wip/mk_iec.py). -/
import Derived.Test.YtclbmgnpgjhlhaaIecProg
namespace Go.Proofs.Ytclbmgnpgjhlhaa
open Go.RowKit
theorem int_beq (a b : Int) : (a == b) = decide (a = b) := by by_cases h : a = b <;> simp [h]
theorem bt {w w1 w2 : World} (h : Below w.heap.size w w1) (k : Below w1.heap.size w1 w2) : Below w.heap.size w w2 := h.trans (k.mono h.size)
theorem size_any (k : Int) (w : World) : Calls Try.prog 25 #[.int .i64 k] w fun e w' => e = .returned (.int .i64 (sizeK (kN k))) ∧ Below w.heap.size w w' := by
  rcases kN_cases k with rfl | rfl | rfl | rfl | rfl | rfl | rfl | ⟨hk, h0⟩
  · exact size_1 w
  · exact size_2 w
  · exact size_3 w
  · exact size_4 w
  · exact size_5 w
  · exact size_6 w
  · exact size_7 w
  · rw [h0]; exact size_out k hk w
theorem wrap_any (k : Int) (v : Int) (w : World) : Calls Try.prog 26 #[.int .i64 k, .int .i64 v] w fun e w' => e = .returned (.int .i64 (wrapK (kN k) v)) ∧ Below w.heap.size w w' := by
  rcases kN_cases k with rfl | rfl | rfl | rfl | rfl | rfl | rfl | ⟨hk, h0⟩
  · exact wrap_1 v w
  · exact wrap_2 v w
  · exact wrap_3 v w
  · exact wrap_4 v w
  · exact wrap_5 v w
  · exact wrap_6 v w
  · exact wrap_7 v w
  · rw [h0]; exact wrap_out k hk v w
set_option maxRecDepth 100000 in
set_option maxHeartbeats 1000000 in
theorem is_1 (v : Int) (w : World) : Calls Try.prog 27 #[.int .i64 1, .int .i64 v] w fun e w' => e = .returned (.bool (isK 1 v)) ∧ Below w.heap.size w w' := by
  go_enter Try.func27, Try.ntmps27
  go_wp2_with fail
  refine (of_1 _).mono ?_
  rintro e w1 ⟨rfl, hb1⟩
  go_wp2_with fail
  refine (wrap_1 v _).mono ?_
  rintro e w2 ⟨rfl, hb2⟩
  go_wp2
  go_ret
  exact ⟨ret_bool (by simp [isK, int_beq]), bt (hb1.alloc hb1.size _) hb2⟩
set_option maxRecDepth 100000 in
set_option maxHeartbeats 1000000 in
theorem is_2 (v : Int) (w : World) : Calls Try.prog 27 #[.int .i64 2, .int .i64 v] w fun e w' => e = .returned (.bool (isK 2 v)) ∧ Below w.heap.size w w' := by
  go_enter Try.func27, Try.ntmps27
  go_wp2_with fail
  refine (of_2 _).mono ?_
  rintro e w1 ⟨rfl, hb1⟩
  go_wp2_with fail
  refine (wrap_2 v _).mono ?_
  rintro e w2 ⟨rfl, hb2⟩
  go_wp2
  go_ret
  exact ⟨ret_bool (by simp [isK, int_beq]), bt (hb1.alloc hb1.size _) hb2⟩
set_option maxRecDepth 100000 in
set_option maxHeartbeats 1000000 in
theorem is_3 (v : Int) (w : World) : Calls Try.prog 27 #[.int .i64 3, .int .i64 v] w fun e w' => e = .returned (.bool (isK 3 v)) ∧ Below w.heap.size w w' := by
  go_enter Try.func27, Try.ntmps27
  go_wp2_with fail
  refine (of_3 _).mono ?_
  rintro e w1 ⟨rfl, hb1⟩
  go_wp2_with fail
  refine (wrap_3 v _).mono ?_
  rintro e w2 ⟨rfl, hb2⟩
  go_wp2
  go_ret
  exact ⟨ret_bool (by simp [isK, int_beq]), bt (hb1.alloc hb1.size _) hb2⟩
set_option maxRecDepth 100000 in
set_option maxHeartbeats 1000000 in
theorem is_4 (v : Int) (w : World) : Calls Try.prog 27 #[.int .i64 4, .int .i64 v] w fun e w' => e = .returned (.bool (isK 4 v)) ∧ Below w.heap.size w w' := by
  go_enter Try.func27, Try.ntmps27
  go_wp2_with fail
  refine (of_4 _).mono ?_
  rintro e w1 ⟨rfl, hb1⟩
  go_wp2_with fail
  refine (wrap_4 v _).mono ?_
  rintro e w2 ⟨rfl, hb2⟩
  go_wp2
  go_ret
  exact ⟨ret_bool (by simp [isK, int_beq]), bt (hb1.alloc hb1.size _) hb2⟩
set_option maxRecDepth 100000 in
set_option maxHeartbeats 1000000 in
theorem is_5 (v : Int) (w : World) : Calls Try.prog 27 #[.int .i64 5, .int .i64 v] w fun e w' => e = .returned (.bool (isK 5 v)) ∧ Below w.heap.size w w' := by
  go_enter Try.func27, Try.ntmps27
  go_wp2_with fail
  refine (of_5 _).mono ?_
  rintro e w1 ⟨rfl, hb1⟩
  go_wp2_with fail
  refine (wrap_5 v _).mono ?_
  rintro e w2 ⟨rfl, hb2⟩
  go_wp2
  go_ret
  exact ⟨ret_bool (by simp [isK, int_beq]), bt (hb1.alloc hb1.size _) hb2⟩
set_option maxRecDepth 100000 in
set_option maxHeartbeats 1000000 in
theorem is_6 (v : Int) (w : World) : Calls Try.prog 27 #[.int .i64 6, .int .i64 v] w fun e w' => e = .returned (.bool (isK 6 v)) ∧ Below w.heap.size w w' := by
  go_enter Try.func27, Try.ntmps27
  go_wp2_with fail
  refine (of_6 _).mono ?_
  rintro e w1 ⟨rfl, hb1⟩
  go_wp2_with fail
  refine (wrap_6 v _).mono ?_
  rintro e w2 ⟨rfl, hb2⟩
  go_wp2
  go_ret
  exact ⟨ret_bool (by simp [isK, int_beq]), bt (hb1.alloc hb1.size _) hb2⟩
set_option maxRecDepth 100000 in
set_option maxHeartbeats 1000000 in
theorem is_7 (v : Int) (w : World) : Calls Try.prog 27 #[.int .i64 7, .int .i64 v] w fun e w' => e = .returned (.bool (isK 7 v)) ∧ Below w.heap.size w w' := by
  go_enter Try.func27, Try.ntmps27
  go_wp2_with fail
  refine (of_7 _).mono ?_
  rintro e w1 ⟨rfl, hb1⟩
  go_wp2_with fail
  refine (wrap_7 v _).mono ?_
  rintro e w2 ⟨rfl, hb2⟩
  go_wp2
  go_ret
  exact ⟨ret_bool (by simp [isK, int_beq]), bt (hb1.alloc hb1.size _) hb2⟩
set_option maxRecDepth 100000 in
set_option maxHeartbeats 1000000 in
theorem is_out (k : Int) (hk : k < 1 ∨ 7 < k) (v : Int) (w : World) : Calls Try.prog 27 #[.int .i64 k, .int .i64 v] w fun e w' => e = .returned (.bool (isK 0 v)) ∧ Below w.heap.size w w' := by
  go_enter Try.func27, Try.ntmps27
  go_wp2_with fail
  refine (of_out k hk _).mono ?_
  rintro e w1 ⟨rfl, hb1⟩
  go_wp2
  go_ret
  exact ⟨ret_bool (by simp [isK]), hb1.alloc hb1.size _⟩
theorem is_any (k : Int) (v : Int) (w : World) : Calls Try.prog 27 #[.int .i64 k, .int .i64 v] w fun e w' => e = .returned (.bool (isK (kN k) v)) ∧ Below w.heap.size w w' := by
  rcases kN_cases k with rfl | rfl | rfl | rfl | rfl | rfl | rfl | ⟨hk, h0⟩
  · exact is_1 v w
  · exact is_2 v w
  · exact is_3 v w
  · exact is_4 v w
  · exact is_5 v w
  · exact is_6 v w
  · exact is_7 v w
  · rw [h0]; exact is_out k hk v w
set_option maxRecDepth 100000 in
set_option maxHeartbeats 1000000 in
theorem may_1 (op : Int) (w : World) : Calls Try.prog 18 #[.int .i64 op, .int .i64 1] w fun e w' => e = .returned (.bool (mayK op 1)) ∧ Below w.heap.size w w' := by
  rcases (by omega : op < 7 ∨ (7 ≤ op ∧ op ≤ 13) ∨ (14 ≤ op ∧ op ≤ 18) ∨ (19 ≤ op ∧ op ≤ 24) ∨ 24 < op) with ho | ⟨h1, h2⟩ | ⟨h1, h2⟩ | ⟨h1, h2⟩ | ho
  · have hm : mayK op 1 = false := by rw [mayK, if_neg (by decide), if_neg (by omega), if_neg (by omega)]; simp; omega
    rw [hm]
    clear hm
    go_enter Try.func18, Try.ntmps18
    go_wp2_with (go_at_call 51; refine (of_1 _).mono ?_; rintro e w1 ⟨rfl, hb1⟩)
    go_ret
    exact ⟨rfl, hb1.alloc hb1.size _⟩
  · have hm : mayK op 1 = true := by rw [mayK, if_neg (by decide), if_pos ⟨by omega, by omega⟩]; rfl
    rw [hm]
    clear hm
    go_enter Try.func18, Try.ntmps18
    go_wp2_with (go_at_call 51; refine (of_1 _).mono ?_; rintro e w1 ⟨rfl, hb1⟩)
    go_ret
    exact ⟨rfl, hb1.alloc hb1.size _⟩
  · have hm : mayK op 1 = false := by rw [mayK, if_neg (by decide), if_neg (by omega), if_pos ⟨by omega, by omega⟩]; rfl
    rw [hm]
    clear hm
    go_enter Try.func18, Try.ntmps18
    go_wp2_with (go_at_call 51; refine (of_1 _).mono ?_; rintro e w1 ⟨rfl, hb1⟩)
    go_ret
    exact ⟨rfl, hb1.alloc hb1.size _⟩
  · have hm : mayK op 1 = true := by rw [mayK, if_neg (by decide), if_neg (by omega), if_neg (by omega)]; simp; omega
    rw [hm]
    clear hm
    go_enter Try.func18, Try.ntmps18
    go_wp2_with (go_at_call 51; refine (of_1 _).mono ?_; rintro e w1 ⟨rfl, hb1⟩)
    go_ret
    exact ⟨rfl, hb1.alloc hb1.size _⟩
  · have hm : mayK op 1 = false := by rw [mayK, if_neg (by decide), if_neg (by omega), if_neg (by omega)]; simp; omega
    rw [hm]
    clear hm
    go_enter Try.func18, Try.ntmps18
    go_wp2_with (go_at_call 51; refine (of_1 _).mono ?_; rintro e w1 ⟨rfl, hb1⟩)
    go_ret
    exact ⟨ret_bool (by simp; omega), hb1.alloc hb1.size _⟩
set_option maxRecDepth 100000 in
set_option maxHeartbeats 1000000 in
theorem may_2 (op : Int) (w : World) : Calls Try.prog 18 #[.int .i64 op, .int .i64 2] w fun e w' => e = .returned (.bool (mayK op 2)) ∧ Below w.heap.size w w' := by
  rcases (by omega : op < 7 ∨ (7 ≤ op ∧ op ≤ 13) ∨ (14 ≤ op ∧ op ≤ 18) ∨ (19 ≤ op ∧ op ≤ 24) ∨ 24 < op) with ho | ⟨h1, h2⟩ | ⟨h1, h2⟩ | ⟨h1, h2⟩ | ho
  · have hm : mayK op 2 = false := by rw [mayK, if_neg (by decide), if_neg (by omega), if_neg (by omega)]; simp; omega
    rw [hm]
    clear hm
    go_enter Try.func18, Try.ntmps18
    go_wp2_with (go_at_call 51; refine (of_2 _).mono ?_; rintro e w1 ⟨rfl, hb1⟩)
    go_ret
    exact ⟨rfl, hb1.alloc hb1.size _⟩
  · have hm : mayK op 2 = false := by rw [mayK, if_neg (by decide), if_pos ⟨by omega, by omega⟩]; rfl
    rw [hm]
    clear hm
    go_enter Try.func18, Try.ntmps18
    go_wp2_with (go_at_call 51; refine (of_2 _).mono ?_; rintro e w1 ⟨rfl, hb1⟩)
    go_ret
    exact ⟨rfl, hb1.alloc hb1.size _⟩
  · have hm : mayK op 2 = true := by rw [mayK, if_neg (by decide), if_neg (by omega), if_pos ⟨by omega, by omega⟩]; rfl
    rw [hm]
    clear hm
    go_enter Try.func18, Try.ntmps18
    go_wp2_with (go_at_call 51; refine (of_2 _).mono ?_; rintro e w1 ⟨rfl, hb1⟩)
    go_ret
    exact ⟨rfl, hb1.alloc hb1.size _⟩
  · have hm : mayK op 2 = true := by rw [mayK, if_neg (by decide), if_neg (by omega), if_neg (by omega)]; simp; omega
    rw [hm]
    clear hm
    go_enter Try.func18, Try.ntmps18
    go_wp2_with (go_at_call 51; refine (of_2 _).mono ?_; rintro e w1 ⟨rfl, hb1⟩)
    go_ret
    exact ⟨rfl, hb1.alloc hb1.size _⟩
  · have hm : mayK op 2 = false := by rw [mayK, if_neg (by decide), if_neg (by omega), if_neg (by omega)]; simp; omega
    rw [hm]
    clear hm
    go_enter Try.func18, Try.ntmps18
    go_wp2_with (go_at_call 51; refine (of_2 _).mono ?_; rintro e w1 ⟨rfl, hb1⟩)
    go_ret
    exact ⟨ret_bool (by simp; omega), hb1.alloc hb1.size _⟩
set_option maxRecDepth 100000 in
set_option maxHeartbeats 1000000 in
theorem may_3 (op : Int) (w : World) : Calls Try.prog 18 #[.int .i64 op, .int .i64 3] w fun e w' => e = .returned (.bool (mayK op 3)) ∧ Below w.heap.size w w' := by
  rcases (by omega : op < 7 ∨ (7 ≤ op ∧ op ≤ 13) ∨ (14 ≤ op ∧ op ≤ 18) ∨ (19 ≤ op ∧ op ≤ 24) ∨ 24 < op) with ho | ⟨h1, h2⟩ | ⟨h1, h2⟩ | ⟨h1, h2⟩ | ho
  · have hm : mayK op 3 = false := by rw [mayK, if_neg (by decide), if_neg (by omega), if_neg (by omega)]; simp; omega
    rw [hm]
    clear hm
    go_enter Try.func18, Try.ntmps18
    go_wp2_with (go_at_call 51; refine (of_3 _).mono ?_; rintro e w1 ⟨rfl, hb1⟩)
    go_ret
    exact ⟨rfl, hb1.alloc hb1.size _⟩
  · have hm : mayK op 3 = false := by rw [mayK, if_neg (by decide), if_pos ⟨by omega, by omega⟩]; rfl
    rw [hm]
    clear hm
    go_enter Try.func18, Try.ntmps18
    go_wp2_with (go_at_call 51; refine (of_3 _).mono ?_; rintro e w1 ⟨rfl, hb1⟩)
    go_ret
    exact ⟨rfl, hb1.alloc hb1.size _⟩
  · have hm : mayK op 3 = true := by rw [mayK, if_neg (by decide), if_neg (by omega), if_pos ⟨by omega, by omega⟩]; rfl
    rw [hm]
    clear hm
    go_enter Try.func18, Try.ntmps18
    go_wp2_with (go_at_call 51; refine (of_3 _).mono ?_; rintro e w1 ⟨rfl, hb1⟩)
    go_ret
    exact ⟨rfl, hb1.alloc hb1.size _⟩
  · have hm : mayK op 3 = true := by rw [mayK, if_neg (by decide), if_neg (by omega), if_neg (by omega)]; simp; omega
    rw [hm]
    clear hm
    go_enter Try.func18, Try.ntmps18
    go_wp2_with (go_at_call 51; refine (of_3 _).mono ?_; rintro e w1 ⟨rfl, hb1⟩)
    go_ret
    exact ⟨rfl, hb1.alloc hb1.size _⟩
  · have hm : mayK op 3 = false := by rw [mayK, if_neg (by decide), if_neg (by omega), if_neg (by omega)]; simp; omega
    rw [hm]
    clear hm
    go_enter Try.func18, Try.ntmps18
    go_wp2_with (go_at_call 51; refine (of_3 _).mono ?_; rintro e w1 ⟨rfl, hb1⟩)
    go_ret
    exact ⟨ret_bool (by simp; omega), hb1.alloc hb1.size _⟩
set_option maxRecDepth 100000 in
set_option maxHeartbeats 1000000 in
theorem may_4 (op : Int) (w : World) : Calls Try.prog 18 #[.int .i64 op, .int .i64 4] w fun e w' => e = .returned (.bool (mayK op 4)) ∧ Below w.heap.size w w' := by
  rcases (by omega : op < 7 ∨ (7 ≤ op ∧ op ≤ 13) ∨ (14 ≤ op ∧ op ≤ 18) ∨ (19 ≤ op ∧ op ≤ 24) ∨ 24 < op) with ho | ⟨h1, h2⟩ | ⟨h1, h2⟩ | ⟨h1, h2⟩ | ho
  · have hm : mayK op 4 = false := by rw [mayK, if_neg (by decide), if_neg (by omega), if_neg (by omega)]; simp; omega
    rw [hm]
    clear hm
    go_enter Try.func18, Try.ntmps18
    go_wp2_with (go_at_call 51; refine (of_4 _).mono ?_; rintro e w1 ⟨rfl, hb1⟩)
    go_ret
    exact ⟨rfl, hb1.alloc hb1.size _⟩
  · have hm : mayK op 4 = false := by rw [mayK, if_neg (by decide), if_pos ⟨by omega, by omega⟩]; rfl
    rw [hm]
    clear hm
    go_enter Try.func18, Try.ntmps18
    go_wp2_with (go_at_call 51; refine (of_4 _).mono ?_; rintro e w1 ⟨rfl, hb1⟩)
    go_ret
    exact ⟨rfl, hb1.alloc hb1.size _⟩
  · have hm : mayK op 4 = true := by rw [mayK, if_neg (by decide), if_neg (by omega), if_pos ⟨by omega, by omega⟩]; rfl
    rw [hm]
    clear hm
    go_enter Try.func18, Try.ntmps18
    go_wp2_with (go_at_call 51; refine (of_4 _).mono ?_; rintro e w1 ⟨rfl, hb1⟩)
    go_ret
    exact ⟨rfl, hb1.alloc hb1.size _⟩
  · have hm : mayK op 4 = true := by rw [mayK, if_neg (by decide), if_neg (by omega), if_neg (by omega)]; simp; omega
    rw [hm]
    clear hm
    go_enter Try.func18, Try.ntmps18
    go_wp2_with (go_at_call 51; refine (of_4 _).mono ?_; rintro e w1 ⟨rfl, hb1⟩)
    go_ret
    exact ⟨rfl, hb1.alloc hb1.size _⟩
  · have hm : mayK op 4 = false := by rw [mayK, if_neg (by decide), if_neg (by omega), if_neg (by omega)]; simp; omega
    rw [hm]
    clear hm
    go_enter Try.func18, Try.ntmps18
    go_wp2_with (go_at_call 51; refine (of_4 _).mono ?_; rintro e w1 ⟨rfl, hb1⟩)
    go_ret
    exact ⟨ret_bool (by simp; omega), hb1.alloc hb1.size _⟩
set_option maxRecDepth 100000 in
set_option maxHeartbeats 1000000 in
theorem may_5 (op : Int) (w : World) : Calls Try.prog 18 #[.int .i64 op, .int .i64 5] w fun e w' => e = .returned (.bool (mayK op 5)) ∧ Below w.heap.size w w' := by
  rcases (by omega : op < 7 ∨ (7 ≤ op ∧ op ≤ 13) ∨ (14 ≤ op ∧ op ≤ 18) ∨ (19 ≤ op ∧ op ≤ 24) ∨ 24 < op) with ho | ⟨h1, h2⟩ | ⟨h1, h2⟩ | ⟨h1, h2⟩ | ho
  · have hm : mayK op 5 = false := by rw [mayK, if_neg (by decide), if_neg (by omega), if_neg (by omega)]; simp; omega
    rw [hm]
    clear hm
    go_enter Try.func18, Try.ntmps18
    go_wp2_with (go_at_call 51; refine (of_5 _).mono ?_; rintro e w1 ⟨rfl, hb1⟩)
    go_ret
    exact ⟨rfl, hb1.alloc hb1.size _⟩
  · have hm : mayK op 5 = false := by rw [mayK, if_neg (by decide), if_pos ⟨by omega, by omega⟩]; rfl
    rw [hm]
    clear hm
    go_enter Try.func18, Try.ntmps18
    go_wp2_with (go_at_call 51; refine (of_5 _).mono ?_; rintro e w1 ⟨rfl, hb1⟩)
    go_ret
    exact ⟨rfl, hb1.alloc hb1.size _⟩
  · have hm : mayK op 5 = true := by rw [mayK, if_neg (by decide), if_neg (by omega), if_pos ⟨by omega, by omega⟩]; rfl
    rw [hm]
    clear hm
    go_enter Try.func18, Try.ntmps18
    go_wp2_with (go_at_call 51; refine (of_5 _).mono ?_; rintro e w1 ⟨rfl, hb1⟩)
    go_ret
    exact ⟨rfl, hb1.alloc hb1.size _⟩
  · have hm : mayK op 5 = true := by rw [mayK, if_neg (by decide), if_neg (by omega), if_neg (by omega)]; simp; omega
    rw [hm]
    clear hm
    go_enter Try.func18, Try.ntmps18
    go_wp2_with (go_at_call 51; refine (of_5 _).mono ?_; rintro e w1 ⟨rfl, hb1⟩)
    go_ret
    exact ⟨rfl, hb1.alloc hb1.size _⟩
  · have hm : mayK op 5 = false := by rw [mayK, if_neg (by decide), if_neg (by omega), if_neg (by omega)]; simp; omega
    rw [hm]
    clear hm
    go_enter Try.func18, Try.ntmps18
    go_wp2_with (go_at_call 51; refine (of_5 _).mono ?_; rintro e w1 ⟨rfl, hb1⟩)
    go_ret
    exact ⟨ret_bool (by simp; omega), hb1.alloc hb1.size _⟩
set_option maxRecDepth 100000 in
set_option maxHeartbeats 1000000 in
theorem may_6 (op : Int) (w : World) : Calls Try.prog 18 #[.int .i64 op, .int .i64 6] w fun e w' => e = .returned (.bool (mayK op 6)) ∧ Below w.heap.size w w' := by
  rcases (by omega : op < 7 ∨ (7 ≤ op ∧ op ≤ 13) ∨ (14 ≤ op ∧ op ≤ 18) ∨ (19 ≤ op ∧ op ≤ 24) ∨ 24 < op) with ho | ⟨h1, h2⟩ | ⟨h1, h2⟩ | ⟨h1, h2⟩ | ho
  · have hm : mayK op 6 = false := by rw [mayK, if_neg (by decide), if_neg (by omega), if_neg (by omega)]; simp; omega
    rw [hm]
    clear hm
    go_enter Try.func18, Try.ntmps18
    go_wp2_with (go_at_call 51; refine (of_6 _).mono ?_; rintro e w1 ⟨rfl, hb1⟩)
    go_ret
    exact ⟨rfl, hb1.alloc hb1.size _⟩
  · have hm : mayK op 6 = true := by rw [mayK, if_neg (by decide), if_pos ⟨by omega, by omega⟩]; rfl
    rw [hm]
    clear hm
    go_enter Try.func18, Try.ntmps18
    go_wp2_with (go_at_call 51; refine (of_6 _).mono ?_; rintro e w1 ⟨rfl, hb1⟩)
    go_ret
    exact ⟨rfl, hb1.alloc hb1.size _⟩
  · have hm : mayK op 6 = false := by rw [mayK, if_neg (by decide), if_neg (by omega), if_pos ⟨by omega, by omega⟩]; rfl
    rw [hm]
    clear hm
    go_enter Try.func18, Try.ntmps18
    go_wp2_with (go_at_call 51; refine (of_6 _).mono ?_; rintro e w1 ⟨rfl, hb1⟩)
    go_ret
    exact ⟨rfl, hb1.alloc hb1.size _⟩
  · have hm : mayK op 6 = true := by rw [mayK, if_neg (by decide), if_neg (by omega), if_neg (by omega)]; simp; omega
    rw [hm]
    clear hm
    go_enter Try.func18, Try.ntmps18
    go_wp2_with (go_at_call 51; refine (of_6 _).mono ?_; rintro e w1 ⟨rfl, hb1⟩)
    go_ret
    exact ⟨rfl, hb1.alloc hb1.size _⟩
  · have hm : mayK op 6 = false := by rw [mayK, if_neg (by decide), if_neg (by omega), if_neg (by omega)]; simp; omega
    rw [hm]
    clear hm
    go_enter Try.func18, Try.ntmps18
    go_wp2_with (go_at_call 51; refine (of_6 _).mono ?_; rintro e w1 ⟨rfl, hb1⟩)
    go_ret
    exact ⟨ret_bool (by simp; omega), hb1.alloc hb1.size _⟩
set_option maxRecDepth 100000 in
set_option maxHeartbeats 1000000 in
theorem may_7 (op : Int) (w : World) : Calls Try.prog 18 #[.int .i64 op, .int .i64 7] w fun e w' => e = .returned (.bool (mayK op 7)) ∧ Below w.heap.size w w' := by
  rcases (by omega : op < 7 ∨ (7 ≤ op ∧ op ≤ 13) ∨ (14 ≤ op ∧ op ≤ 18) ∨ (19 ≤ op ∧ op ≤ 24) ∨ 24 < op) with ho | ⟨h1, h2⟩ | ⟨h1, h2⟩ | ⟨h1, h2⟩ | ho
  · have hm : mayK op 7 = false := by rw [mayK, if_neg (by decide), if_neg (by omega), if_neg (by omega)]; simp; omega
    rw [hm]
    clear hm
    go_enter Try.func18, Try.ntmps18
    go_wp2_with (go_at_call 51; refine (of_7 _).mono ?_; rintro e w1 ⟨rfl, hb1⟩)
    go_ret
    exact ⟨rfl, hb1.alloc hb1.size _⟩
  · have hm : mayK op 7 = true := by rw [mayK, if_neg (by decide), if_pos ⟨by omega, by omega⟩]; rfl
    rw [hm]
    clear hm
    go_enter Try.func18, Try.ntmps18
    go_wp2_with (go_at_call 51; refine (of_7 _).mono ?_; rintro e w1 ⟨rfl, hb1⟩)
    go_ret
    exact ⟨rfl, hb1.alloc hb1.size _⟩
  · have hm : mayK op 7 = false := by rw [mayK, if_neg (by decide), if_neg (by omega), if_pos ⟨by omega, by omega⟩]; rfl
    rw [hm]
    clear hm
    go_enter Try.func18, Try.ntmps18
    go_wp2_with (go_at_call 51; refine (of_7 _).mono ?_; rintro e w1 ⟨rfl, hb1⟩)
    go_ret
    exact ⟨rfl, hb1.alloc hb1.size _⟩
  · have hm : mayK op 7 = true := by rw [mayK, if_neg (by decide), if_neg (by omega), if_neg (by omega)]; simp; omega
    rw [hm]
    clear hm
    go_enter Try.func18, Try.ntmps18
    go_wp2_with (go_at_call 51; refine (of_7 _).mono ?_; rintro e w1 ⟨rfl, hb1⟩)
    go_ret
    exact ⟨rfl, hb1.alloc hb1.size _⟩
  · have hm : mayK op 7 = false := by rw [mayK, if_neg (by decide), if_neg (by omega), if_neg (by omega)]; simp; omega
    rw [hm]
    clear hm
    go_enter Try.func18, Try.ntmps18
    go_wp2_with (go_at_call 51; refine (of_7 _).mono ?_; rintro e w1 ⟨rfl, hb1⟩)
    go_ret
    exact ⟨ret_bool (by simp; omega), hb1.alloc hb1.size _⟩
set_option maxRecDepth 100000 in
set_option maxHeartbeats 1000000 in
theorem may_out (k : Int) (hk : k < 1 ∨ 7 < k) (op : Int) (w : World) : Calls Try.prog 18 #[.int .i64 op, .int .i64 k] w fun e w' => e = .returned (.bool (mayK op 0)) ∧ Below w.heap.size w w' := by
  go_enter Try.func18, Try.ntmps18
  go_wp2_with (go_at_call 51; refine (of_out k hk _).mono ?_; rintro e w1 ⟨rfl, hb1⟩)
  go_ret
  exact ⟨ret_bool (by simp [mayK]), hb1.alloc hb1.size _⟩
theorem may_any (op k : Int) (w : World) : Calls Try.prog 18 #[.int .i64 op, .int .i64 k] w fun e w' => e = .returned (.bool (mayK op (kN k))) ∧ Below w.heap.size w w' := by
  rcases kN_cases k with rfl | rfl | rfl | rfl | rfl | rfl | rfl | ⟨hk, h0⟩
  · exact may_1 op w
  · exact may_2 op w
  · exact may_3 op w
  · exact may_4 op w
  · exact may_5 op w
  · exact may_6 op w
  · exact may_7 op w
  · rw [h0]; exact may_out k hk op w
end Go.Proofs.Ytclbmgnpgjhlhaa
