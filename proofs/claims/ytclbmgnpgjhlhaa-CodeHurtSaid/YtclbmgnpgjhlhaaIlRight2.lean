/- May an instruction be? The rest of the classes, and all (made by wip/mk_rright.py). -/
import Derived.Test.YtclbmgnpgjhlhaaIlRight
namespace Go.Proofs.Ytclbmgnpgjhlhaa
open Go.RowKit Go.Proofs.YtclbmgnpgjhlhaaW.PrintWords
attribute [local go_sem high] eqInstr
set_option maxRecDepth 100000 in
set_option maxHeartbeats 2000000 in
theorem rr_block34 (op kind area at_ n : Int) (hc : op = 34) (w : World) : Calls Try.prog 66 #[.agg #[.int .i64 op, .int .i64 kind, .int .i64 area, .int .i64 at_, .int .i64 n]] w fun e w' => e = .returned (.bool (rightS op kind area at_ n)) ∧ Below w.heap.size w w' := by
  have hr := readsB_no (op := op) (by omega)
  have hw := writesB_no (op := op) (by omega)
  have hv : rightS op kind area at_ n = decide ((area = 3 ∨ area = 4) ∧ 0 ≤ at_ ∧ at_ ≤ 59 ∧ 1 ≤ n ∧ n ≤ 9999 ∧ kind = 0) := by
    unfold rightS
    rw [if_neg (by rw [hr]; simp), if_neg (by rw [hr, hw]; simp), if_neg (by omega), if_neg (by omega), if_neg (by omega), if_neg (by omega), if_pos (by omega)]
  have HR := Lib.hid hr
  have HW := Lib.hid hw
  have HV := Lib.hid hv
  rcases (by omega : (op = 34 ∧ area = 3 ∧ at_ < 0) ∨ (op = 34 ∧ area = 3 ∧ 0 ≤ at_ ∧ 59 < at_) ∨ (op = 34 ∧ area = 3 ∧ 0 ≤ at_ ∧ at_ ≤ 59 ∧ n < 1) ∨ (op = 34 ∧ area = 3 ∧ 0 ≤ at_ ∧ at_ ≤ 59 ∧ 1 ≤ n ∧ n ≤ 9999) ∨ (op = 34 ∧ area = 3 ∧ 0 ≤ at_ ∧ at_ ≤ 59 ∧ 1 ≤ n ∧ 9999 < n) ∨ (op = 34 ∧ area = 4 ∧ at_ < 0) ∨ (op = 34 ∧ area = 4 ∧ 0 ≤ at_ ∧ 59 < at_) ∨ (op = 34 ∧ area = 4 ∧ 0 ≤ at_ ∧ at_ ≤ 59 ∧ n < 1) ∨ (op = 34 ∧ area = 4 ∧ 0 ≤ at_ ∧ at_ ≤ 59 ∧ 1 ≤ n ∧ n ≤ 9999) ∨ (op = 34 ∧ area = 4 ∧ 0 ≤ at_ ∧ at_ ≤ 59 ∧ 1 ≤ n ∧ 9999 < n) ∨ (op = 34 ∧ area ≠ 3 ∧ area ≠ 4)) with ⟨t0, t1, t2⟩ | ⟨t0, t1, t2, t3⟩ | ⟨t0, t1, t2, t3, t4⟩ | ⟨t0, t1, t2, t3, t4, t5⟩ | ⟨t0, t1, t2, t3, t4, t5⟩ | ⟨t0, t1, t2⟩ | ⟨t0, t1, t2, t3⟩ | ⟨t0, t1, t2, t3, t4⟩ | ⟨t0, t1, t2, t3, t4, t5⟩ | ⟨t0, t1, t2, t3, t4, t5⟩ | ⟨t0, t1, t2⟩
  · clear hr hw hv hc
    subst t0
    subst t1
    go_enter Try.func66, Try.ntmps66
    go_wp2_with fail
    refine (reads_any _ _).mono ?_
    rintro e w' ⟨rfl, rfl⟩
    rw [HR.out]
    go_wp2_with fail
    refine (reads_any _ _).mono ?_
    rintro e w' ⟨rfl, rfl⟩
    rw [HR.out]
    go_wp2_with fail
    refine (writes_any _ _).mono ?_
    rintro e w' ⟨rfl, rfl⟩
    rw [HW.out]
    go_wp2
    go_ret
    exact rr_class HV.out (((Below.refl _ _).alloc (Nat.le_refl _) _).alloc (by simp) _) (by rw [Bool.eq_iff_iff]; first | (simp; done) | (simp; omega) | (simp <;> omega))
  · clear hr hw hv hc
    subst t0
    subst t1
    go_enter Try.func66, Try.ntmps66
    go_wp2_with fail
    refine (reads_any _ _).mono ?_
    rintro e w' ⟨rfl, rfl⟩
    rw [HR.out]
    go_wp2_with fail
    refine (reads_any _ _).mono ?_
    rintro e w' ⟨rfl, rfl⟩
    rw [HR.out]
    go_wp2_with fail
    refine (writes_any _ _).mono ?_
    rintro e w' ⟨rfl, rfl⟩
    rw [HW.out]
    go_wp2
    go_ret
    exact rr_class HV.out (((Below.refl _ _).alloc (Nat.le_refl _) _).alloc (by simp) _) (by rw [Bool.eq_iff_iff]; first | (simp; done) | (simp; omega) | (simp <;> omega))
  · clear hr hw hv hc
    subst t0
    subst t1
    go_enter Try.func66, Try.ntmps66
    go_wp2_with fail
    refine (reads_any _ _).mono ?_
    rintro e w' ⟨rfl, rfl⟩
    rw [HR.out]
    go_wp2_with fail
    refine (reads_any _ _).mono ?_
    rintro e w' ⟨rfl, rfl⟩
    rw [HR.out]
    go_wp2_with fail
    refine (writes_any _ _).mono ?_
    rintro e w' ⟨rfl, rfl⟩
    rw [HW.out]
    go_wp2
    go_ret
    exact rr_class HV.out (((Below.refl _ _).alloc (Nat.le_refl _) _).alloc (by simp) _) (by rw [Bool.eq_iff_iff]; first | (simp; done) | (simp; omega) | (simp <;> omega))
  · clear hr hw hv hc
    subst t0
    subst t1
    go_enter Try.func66, Try.ntmps66
    go_wp2_with fail
    refine (reads_any _ _).mono ?_
    rintro e w' ⟨rfl, rfl⟩
    rw [HR.out]
    go_wp2_with fail
    refine (reads_any _ _).mono ?_
    rintro e w' ⟨rfl, rfl⟩
    rw [HR.out]
    go_wp2_with fail
    refine (writes_any _ _).mono ?_
    rintro e w' ⟨rfl, rfl⟩
    rw [HW.out]
    go_wp2
    go_ret
    exact rr_class HV.out (((Below.refl _ _).alloc (Nat.le_refl _) _).alloc (by simp) _) (by rw [Bool.eq_iff_iff]; first | (simp; done) | (simp; omega) | (simp <;> omega))
  · clear hr hw hv hc
    subst t0
    subst t1
    go_enter Try.func66, Try.ntmps66
    go_wp2_with fail
    refine (reads_any _ _).mono ?_
    rintro e w' ⟨rfl, rfl⟩
    rw [HR.out]
    go_wp2_with fail
    refine (reads_any _ _).mono ?_
    rintro e w' ⟨rfl, rfl⟩
    rw [HR.out]
    go_wp2_with fail
    refine (writes_any _ _).mono ?_
    rintro e w' ⟨rfl, rfl⟩
    rw [HW.out]
    go_wp2
    go_ret
    exact rr_class HV.out (((Below.refl _ _).alloc (Nat.le_refl _) _).alloc (by simp) _) (by rw [Bool.eq_iff_iff]; first | (simp; done) | (simp; omega) | (simp <;> omega))
  · clear hr hw hv hc
    subst t0
    subst t1
    go_enter Try.func66, Try.ntmps66
    go_wp2_with fail
    refine (reads_any _ _).mono ?_
    rintro e w' ⟨rfl, rfl⟩
    rw [HR.out]
    go_wp2_with fail
    refine (reads_any _ _).mono ?_
    rintro e w' ⟨rfl, rfl⟩
    rw [HR.out]
    go_wp2_with fail
    refine (writes_any _ _).mono ?_
    rintro e w' ⟨rfl, rfl⟩
    rw [HW.out]
    go_wp2
    go_ret
    exact rr_class HV.out (((Below.refl _ _).alloc (Nat.le_refl _) _).alloc (by simp) _) (by rw [Bool.eq_iff_iff]; first | (simp; done) | (simp; omega) | (simp <;> omega))
  · clear hr hw hv hc
    subst t0
    subst t1
    go_enter Try.func66, Try.ntmps66
    go_wp2_with fail
    refine (reads_any _ _).mono ?_
    rintro e w' ⟨rfl, rfl⟩
    rw [HR.out]
    go_wp2_with fail
    refine (reads_any _ _).mono ?_
    rintro e w' ⟨rfl, rfl⟩
    rw [HR.out]
    go_wp2_with fail
    refine (writes_any _ _).mono ?_
    rintro e w' ⟨rfl, rfl⟩
    rw [HW.out]
    go_wp2
    go_ret
    exact rr_class HV.out (((Below.refl _ _).alloc (Nat.le_refl _) _).alloc (by simp) _) (by rw [Bool.eq_iff_iff]; first | (simp; done) | (simp; omega) | (simp <;> omega))
  · clear hr hw hv hc
    subst t0
    subst t1
    go_enter Try.func66, Try.ntmps66
    go_wp2_with fail
    refine (reads_any _ _).mono ?_
    rintro e w' ⟨rfl, rfl⟩
    rw [HR.out]
    go_wp2_with fail
    refine (reads_any _ _).mono ?_
    rintro e w' ⟨rfl, rfl⟩
    rw [HR.out]
    go_wp2_with fail
    refine (writes_any _ _).mono ?_
    rintro e w' ⟨rfl, rfl⟩
    rw [HW.out]
    go_wp2
    go_ret
    exact rr_class HV.out (((Below.refl _ _).alloc (Nat.le_refl _) _).alloc (by simp) _) (by rw [Bool.eq_iff_iff]; first | (simp; done) | (simp; omega) | (simp <;> omega))
  · clear hr hw hv hc
    subst t0
    subst t1
    go_enter Try.func66, Try.ntmps66
    go_wp2_with fail
    refine (reads_any _ _).mono ?_
    rintro e w' ⟨rfl, rfl⟩
    rw [HR.out]
    go_wp2_with fail
    refine (reads_any _ _).mono ?_
    rintro e w' ⟨rfl, rfl⟩
    rw [HR.out]
    go_wp2_with fail
    refine (writes_any _ _).mono ?_
    rintro e w' ⟨rfl, rfl⟩
    rw [HW.out]
    go_wp2
    go_ret
    exact rr_class HV.out (((Below.refl _ _).alloc (Nat.le_refl _) _).alloc (by simp) _) (by rw [Bool.eq_iff_iff]; first | (simp; done) | (simp; omega) | (simp <;> omega))
  · clear hr hw hv hc
    subst t0
    subst t1
    go_enter Try.func66, Try.ntmps66
    go_wp2_with fail
    refine (reads_any _ _).mono ?_
    rintro e w' ⟨rfl, rfl⟩
    rw [HR.out]
    go_wp2_with fail
    refine (reads_any _ _).mono ?_
    rintro e w' ⟨rfl, rfl⟩
    rw [HR.out]
    go_wp2_with fail
    refine (writes_any _ _).mono ?_
    rintro e w' ⟨rfl, rfl⟩
    rw [HW.out]
    go_wp2
    go_ret
    exact rr_class HV.out (((Below.refl _ _).alloc (Nat.le_refl _) _).alloc (by simp) _) (by rw [Bool.eq_iff_iff]; first | (simp; done) | (simp; omega) | (simp <;> omega))
  · clear hr hw hv hc
    have e1 : (area == 3) = false := by rw [beq_eq_false_iff_ne]; omega
    have e2 : (area == 4) = false := by rw [beq_eq_false_iff_ne]; omega
    subst t0
    go_enter Try.func66, Try.ntmps66
    go_wp2_with fail
    refine (reads_any _ _).mono ?_
    rintro e w' ⟨rfl, rfl⟩
    rw [HR.out]
    go_wp2_with fail
    refine (reads_any _ _).mono ?_
    rintro e w' ⟨rfl, rfl⟩
    rw [HR.out]
    go_wp2_with fail
    refine (writes_any _ _).mono ?_
    rintro e w' ⟨rfl, rfl⟩
    rw [HW.out]
    go_wp2
    go_ret
    exact rr_class HV.out (((Below.refl _ _).alloc (Nat.le_refl _) _).alloc (by simp) _) (by rw [Bool.eq_iff_iff]; first | (simp; done) | (simp; omega) | (simp <;> omega))
set_option maxRecDepth 100000 in
set_option maxHeartbeats 2000000 in
theorem rr_block35 (op kind area at_ n : Int) (hc : op = 35) (w : World) : Calls Try.prog 66 #[.agg #[.int .i64 op, .int .i64 kind, .int .i64 area, .int .i64 at_, .int .i64 n]] w fun e w' => e = .returned (.bool (rightS op kind area at_ n)) ∧ Below w.heap.size w w' := by
  have hr := readsB_no (op := op) (by omega)
  have hw := writesB_no (op := op) (by omega)
  have hv : rightS op kind area at_ n = decide ((area = 3 ∨ area = 4) ∧ 0 ≤ at_ ∧ at_ ≤ 59 ∧ 1 ≤ n ∧ n ≤ 9999 ∧ kind = 0) := by
    unfold rightS
    rw [if_neg (by rw [hr]; simp), if_neg (by rw [hr, hw]; simp), if_neg (by omega), if_neg (by omega), if_neg (by omega), if_neg (by omega), if_pos (by omega)]
  have HR := Lib.hid hr
  have HW := Lib.hid hw
  have HV := Lib.hid hv
  rcases (by omega : (op = 35 ∧ area = 3 ∧ at_ < 0) ∨ (op = 35 ∧ area = 3 ∧ 0 ≤ at_ ∧ 59 < at_) ∨ (op = 35 ∧ area = 3 ∧ 0 ≤ at_ ∧ at_ ≤ 59 ∧ n < 1) ∨ (op = 35 ∧ area = 3 ∧ 0 ≤ at_ ∧ at_ ≤ 59 ∧ 1 ≤ n ∧ n ≤ 9999) ∨ (op = 35 ∧ area = 3 ∧ 0 ≤ at_ ∧ at_ ≤ 59 ∧ 1 ≤ n ∧ 9999 < n) ∨ (op = 35 ∧ area = 4 ∧ at_ < 0) ∨ (op = 35 ∧ area = 4 ∧ 0 ≤ at_ ∧ 59 < at_) ∨ (op = 35 ∧ area = 4 ∧ 0 ≤ at_ ∧ at_ ≤ 59 ∧ n < 1) ∨ (op = 35 ∧ area = 4 ∧ 0 ≤ at_ ∧ at_ ≤ 59 ∧ 1 ≤ n ∧ n ≤ 9999) ∨ (op = 35 ∧ area = 4 ∧ 0 ≤ at_ ∧ at_ ≤ 59 ∧ 1 ≤ n ∧ 9999 < n) ∨ (op = 35 ∧ area ≠ 3 ∧ area ≠ 4)) with ⟨t0, t1, t2⟩ | ⟨t0, t1, t2, t3⟩ | ⟨t0, t1, t2, t3, t4⟩ | ⟨t0, t1, t2, t3, t4, t5⟩ | ⟨t0, t1, t2, t3, t4, t5⟩ | ⟨t0, t1, t2⟩ | ⟨t0, t1, t2, t3⟩ | ⟨t0, t1, t2, t3, t4⟩ | ⟨t0, t1, t2, t3, t4, t5⟩ | ⟨t0, t1, t2, t3, t4, t5⟩ | ⟨t0, t1, t2⟩
  · clear hr hw hv hc
    subst t0
    subst t1
    go_enter Try.func66, Try.ntmps66
    go_wp2_with fail
    refine (reads_any _ _).mono ?_
    rintro e w' ⟨rfl, rfl⟩
    rw [HR.out]
    go_wp2_with fail
    refine (reads_any _ _).mono ?_
    rintro e w' ⟨rfl, rfl⟩
    rw [HR.out]
    go_wp2_with fail
    refine (writes_any _ _).mono ?_
    rintro e w' ⟨rfl, rfl⟩
    rw [HW.out]
    go_wp2
    go_ret
    exact rr_class HV.out (((Below.refl _ _).alloc (Nat.le_refl _) _).alloc (by simp) _) (by rw [Bool.eq_iff_iff]; first | (simp; done) | (simp; omega) | (simp <;> omega))
  · clear hr hw hv hc
    subst t0
    subst t1
    go_enter Try.func66, Try.ntmps66
    go_wp2_with fail
    refine (reads_any _ _).mono ?_
    rintro e w' ⟨rfl, rfl⟩
    rw [HR.out]
    go_wp2_with fail
    refine (reads_any _ _).mono ?_
    rintro e w' ⟨rfl, rfl⟩
    rw [HR.out]
    go_wp2_with fail
    refine (writes_any _ _).mono ?_
    rintro e w' ⟨rfl, rfl⟩
    rw [HW.out]
    go_wp2
    go_ret
    exact rr_class HV.out (((Below.refl _ _).alloc (Nat.le_refl _) _).alloc (by simp) _) (by rw [Bool.eq_iff_iff]; first | (simp; done) | (simp; omega) | (simp <;> omega))
  · clear hr hw hv hc
    subst t0
    subst t1
    go_enter Try.func66, Try.ntmps66
    go_wp2_with fail
    refine (reads_any _ _).mono ?_
    rintro e w' ⟨rfl, rfl⟩
    rw [HR.out]
    go_wp2_with fail
    refine (reads_any _ _).mono ?_
    rintro e w' ⟨rfl, rfl⟩
    rw [HR.out]
    go_wp2_with fail
    refine (writes_any _ _).mono ?_
    rintro e w' ⟨rfl, rfl⟩
    rw [HW.out]
    go_wp2
    go_ret
    exact rr_class HV.out (((Below.refl _ _).alloc (Nat.le_refl _) _).alloc (by simp) _) (by rw [Bool.eq_iff_iff]; first | (simp; done) | (simp; omega) | (simp <;> omega))
  · clear hr hw hv hc
    subst t0
    subst t1
    go_enter Try.func66, Try.ntmps66
    go_wp2_with fail
    refine (reads_any _ _).mono ?_
    rintro e w' ⟨rfl, rfl⟩
    rw [HR.out]
    go_wp2_with fail
    refine (reads_any _ _).mono ?_
    rintro e w' ⟨rfl, rfl⟩
    rw [HR.out]
    go_wp2_with fail
    refine (writes_any _ _).mono ?_
    rintro e w' ⟨rfl, rfl⟩
    rw [HW.out]
    go_wp2
    go_ret
    exact rr_class HV.out (((Below.refl _ _).alloc (Nat.le_refl _) _).alloc (by simp) _) (by rw [Bool.eq_iff_iff]; first | (simp; done) | (simp; omega) | (simp <;> omega))
  · clear hr hw hv hc
    subst t0
    subst t1
    go_enter Try.func66, Try.ntmps66
    go_wp2_with fail
    refine (reads_any _ _).mono ?_
    rintro e w' ⟨rfl, rfl⟩
    rw [HR.out]
    go_wp2_with fail
    refine (reads_any _ _).mono ?_
    rintro e w' ⟨rfl, rfl⟩
    rw [HR.out]
    go_wp2_with fail
    refine (writes_any _ _).mono ?_
    rintro e w' ⟨rfl, rfl⟩
    rw [HW.out]
    go_wp2
    go_ret
    exact rr_class HV.out (((Below.refl _ _).alloc (Nat.le_refl _) _).alloc (by simp) _) (by rw [Bool.eq_iff_iff]; first | (simp; done) | (simp; omega) | (simp <;> omega))
  · clear hr hw hv hc
    subst t0
    subst t1
    go_enter Try.func66, Try.ntmps66
    go_wp2_with fail
    refine (reads_any _ _).mono ?_
    rintro e w' ⟨rfl, rfl⟩
    rw [HR.out]
    go_wp2_with fail
    refine (reads_any _ _).mono ?_
    rintro e w' ⟨rfl, rfl⟩
    rw [HR.out]
    go_wp2_with fail
    refine (writes_any _ _).mono ?_
    rintro e w' ⟨rfl, rfl⟩
    rw [HW.out]
    go_wp2
    go_ret
    exact rr_class HV.out (((Below.refl _ _).alloc (Nat.le_refl _) _).alloc (by simp) _) (by rw [Bool.eq_iff_iff]; first | (simp; done) | (simp; omega) | (simp <;> omega))
  · clear hr hw hv hc
    subst t0
    subst t1
    go_enter Try.func66, Try.ntmps66
    go_wp2_with fail
    refine (reads_any _ _).mono ?_
    rintro e w' ⟨rfl, rfl⟩
    rw [HR.out]
    go_wp2_with fail
    refine (reads_any _ _).mono ?_
    rintro e w' ⟨rfl, rfl⟩
    rw [HR.out]
    go_wp2_with fail
    refine (writes_any _ _).mono ?_
    rintro e w' ⟨rfl, rfl⟩
    rw [HW.out]
    go_wp2
    go_ret
    exact rr_class HV.out (((Below.refl _ _).alloc (Nat.le_refl _) _).alloc (by simp) _) (by rw [Bool.eq_iff_iff]; first | (simp; done) | (simp; omega) | (simp <;> omega))
  · clear hr hw hv hc
    subst t0
    subst t1
    go_enter Try.func66, Try.ntmps66
    go_wp2_with fail
    refine (reads_any _ _).mono ?_
    rintro e w' ⟨rfl, rfl⟩
    rw [HR.out]
    go_wp2_with fail
    refine (reads_any _ _).mono ?_
    rintro e w' ⟨rfl, rfl⟩
    rw [HR.out]
    go_wp2_with fail
    refine (writes_any _ _).mono ?_
    rintro e w' ⟨rfl, rfl⟩
    rw [HW.out]
    go_wp2
    go_ret
    exact rr_class HV.out (((Below.refl _ _).alloc (Nat.le_refl _) _).alloc (by simp) _) (by rw [Bool.eq_iff_iff]; first | (simp; done) | (simp; omega) | (simp <;> omega))
  · clear hr hw hv hc
    subst t0
    subst t1
    go_enter Try.func66, Try.ntmps66
    go_wp2_with fail
    refine (reads_any _ _).mono ?_
    rintro e w' ⟨rfl, rfl⟩
    rw [HR.out]
    go_wp2_with fail
    refine (reads_any _ _).mono ?_
    rintro e w' ⟨rfl, rfl⟩
    rw [HR.out]
    go_wp2_with fail
    refine (writes_any _ _).mono ?_
    rintro e w' ⟨rfl, rfl⟩
    rw [HW.out]
    go_wp2
    go_ret
    exact rr_class HV.out (((Below.refl _ _).alloc (Nat.le_refl _) _).alloc (by simp) _) (by rw [Bool.eq_iff_iff]; first | (simp; done) | (simp; omega) | (simp <;> omega))
  · clear hr hw hv hc
    subst t0
    subst t1
    go_enter Try.func66, Try.ntmps66
    go_wp2_with fail
    refine (reads_any _ _).mono ?_
    rintro e w' ⟨rfl, rfl⟩
    rw [HR.out]
    go_wp2_with fail
    refine (reads_any _ _).mono ?_
    rintro e w' ⟨rfl, rfl⟩
    rw [HR.out]
    go_wp2_with fail
    refine (writes_any _ _).mono ?_
    rintro e w' ⟨rfl, rfl⟩
    rw [HW.out]
    go_wp2
    go_ret
    exact rr_class HV.out (((Below.refl _ _).alloc (Nat.le_refl _) _).alloc (by simp) _) (by rw [Bool.eq_iff_iff]; first | (simp; done) | (simp; omega) | (simp <;> omega))
  · clear hr hw hv hc
    have e1 : (area == 3) = false := by rw [beq_eq_false_iff_ne]; omega
    have e2 : (area == 4) = false := by rw [beq_eq_false_iff_ne]; omega
    subst t0
    go_enter Try.func66, Try.ntmps66
    go_wp2_with fail
    refine (reads_any _ _).mono ?_
    rintro e w' ⟨rfl, rfl⟩
    rw [HR.out]
    go_wp2_with fail
    refine (reads_any _ _).mono ?_
    rintro e w' ⟨rfl, rfl⟩
    rw [HR.out]
    go_wp2_with fail
    refine (writes_any _ _).mono ?_
    rintro e w' ⟨rfl, rfl⟩
    rw [HW.out]
    go_wp2
    go_ret
    exact rr_class HV.out (((Below.refl _ _).alloc (Nat.le_refl _) _).alloc (by simp) _) (by rw [Bool.eq_iff_iff]; first | (simp; done) | (simp; omega) | (simp <;> omega))
set_option maxRecDepth 100000 in
set_option maxHeartbeats 2000000 in
theorem rr_trig (op kind area at_ n : Int) (hc : op = 36) (w : World) : Calls Try.prog 66 #[.agg #[.int .i64 op, .int .i64 kind, .int .i64 area, .int .i64 at_, .int .i64 n]] w fun e w' => e = .returned (.bool (rightS op kind area at_ n)) ∧ Below w.heap.size w w' := by
  have hr := readsB_no (op := op) (by omega)
  have hw := writesB_no (op := op) (by omega)
  have hv : rightS op kind area at_ n = decide ((area = 3 ∨ area = 4) ∧ 0 ≤ at_ ∧ at_ ≤ 63 ∧ kind = 0 ∧ n = 0) := by
    unfold rightS
    rw [if_neg (by rw [hr]; simp), if_neg (by rw [hr, hw]; simp), if_neg (by omega), if_neg (by omega), if_neg (by omega), if_neg (by omega), if_neg (by omega), if_pos hc]
  have HR := Lib.hid hr
  have HW := Lib.hid hw
  have HV := Lib.hid hv
  rcases (by omega : (op = 36 ∧ area = 3 ∧ at_ < 0) ∨ (op = 36 ∧ area = 3 ∧ 0 ≤ at_ ∧ 63 < at_) ∨ (op = 36 ∧ area = 3 ∧ 0 ≤ at_ ∧ at_ ≤ 63) ∨ (op = 36 ∧ area = 4 ∧ at_ < 0) ∨ (op = 36 ∧ area = 4 ∧ 0 ≤ at_ ∧ 63 < at_) ∨ (op = 36 ∧ area = 4 ∧ 0 ≤ at_ ∧ at_ ≤ 63) ∨ (op = 36 ∧ area ≠ 3 ∧ area ≠ 4)) with ⟨t0, t1, t2⟩ | ⟨t0, t1, t2, t3⟩ | ⟨t0, t1, t2, t3⟩ | ⟨t0, t1, t2⟩ | ⟨t0, t1, t2, t3⟩ | ⟨t0, t1, t2, t3⟩ | ⟨t0, t1, t2⟩
  · clear hr hw hv hc
    subst t0
    subst t1
    go_enter Try.func66, Try.ntmps66
    go_wp2_with fail
    refine (reads_any _ _).mono ?_
    rintro e w' ⟨rfl, rfl⟩
    rw [HR.out]
    go_wp2_with fail
    refine (reads_any _ _).mono ?_
    rintro e w' ⟨rfl, rfl⟩
    rw [HR.out]
    go_wp2_with fail
    refine (writes_any _ _).mono ?_
    rintro e w' ⟨rfl, rfl⟩
    rw [HW.out]
    go_wp2
    go_ret
    exact rr_class HV.out (((Below.refl _ _).alloc (Nat.le_refl _) _).alloc (by simp) _) (by rw [Bool.eq_iff_iff]; first | (simp; done) | (simp; omega) | (simp <;> omega))
  · clear hr hw hv hc
    subst t0
    subst t1
    go_enter Try.func66, Try.ntmps66
    go_wp2_with fail
    refine (reads_any _ _).mono ?_
    rintro e w' ⟨rfl, rfl⟩
    rw [HR.out]
    go_wp2_with fail
    refine (reads_any _ _).mono ?_
    rintro e w' ⟨rfl, rfl⟩
    rw [HR.out]
    go_wp2_with fail
    refine (writes_any _ _).mono ?_
    rintro e w' ⟨rfl, rfl⟩
    rw [HW.out]
    go_wp2
    go_ret
    exact rr_class HV.out (((Below.refl _ _).alloc (Nat.le_refl _) _).alloc (by simp) _) (by rw [Bool.eq_iff_iff]; first | (simp; done) | (simp; omega) | (simp <;> omega))
  · clear hr hw hv hc
    subst t0
    subst t1
    go_enter Try.func66, Try.ntmps66
    go_wp2_with fail
    refine (reads_any _ _).mono ?_
    rintro e w' ⟨rfl, rfl⟩
    rw [HR.out]
    go_wp2_with fail
    refine (reads_any _ _).mono ?_
    rintro e w' ⟨rfl, rfl⟩
    rw [HR.out]
    go_wp2_with fail
    refine (writes_any _ _).mono ?_
    rintro e w' ⟨rfl, rfl⟩
    rw [HW.out]
    go_wp2
    go_ret
    exact rr_class HV.out (((Below.refl _ _).alloc (Nat.le_refl _) _).alloc (by simp) _) (by rw [Bool.eq_iff_iff]; first | (simp; done) | (simp; omega) | (simp <;> omega))
  · clear hr hw hv hc
    subst t0
    subst t1
    go_enter Try.func66, Try.ntmps66
    go_wp2_with fail
    refine (reads_any _ _).mono ?_
    rintro e w' ⟨rfl, rfl⟩
    rw [HR.out]
    go_wp2_with fail
    refine (reads_any _ _).mono ?_
    rintro e w' ⟨rfl, rfl⟩
    rw [HR.out]
    go_wp2_with fail
    refine (writes_any _ _).mono ?_
    rintro e w' ⟨rfl, rfl⟩
    rw [HW.out]
    go_wp2
    go_ret
    exact rr_class HV.out (((Below.refl _ _).alloc (Nat.le_refl _) _).alloc (by simp) _) (by rw [Bool.eq_iff_iff]; first | (simp; done) | (simp; omega) | (simp <;> omega))
  · clear hr hw hv hc
    subst t0
    subst t1
    go_enter Try.func66, Try.ntmps66
    go_wp2_with fail
    refine (reads_any _ _).mono ?_
    rintro e w' ⟨rfl, rfl⟩
    rw [HR.out]
    go_wp2_with fail
    refine (reads_any _ _).mono ?_
    rintro e w' ⟨rfl, rfl⟩
    rw [HR.out]
    go_wp2_with fail
    refine (writes_any _ _).mono ?_
    rintro e w' ⟨rfl, rfl⟩
    rw [HW.out]
    go_wp2
    go_ret
    exact rr_class HV.out (((Below.refl _ _).alloc (Nat.le_refl _) _).alloc (by simp) _) (by rw [Bool.eq_iff_iff]; first | (simp; done) | (simp; omega) | (simp <;> omega))
  · clear hr hw hv hc
    subst t0
    subst t1
    go_enter Try.func66, Try.ntmps66
    go_wp2_with fail
    refine (reads_any _ _).mono ?_
    rintro e w' ⟨rfl, rfl⟩
    rw [HR.out]
    go_wp2_with fail
    refine (reads_any _ _).mono ?_
    rintro e w' ⟨rfl, rfl⟩
    rw [HR.out]
    go_wp2_with fail
    refine (writes_any _ _).mono ?_
    rintro e w' ⟨rfl, rfl⟩
    rw [HW.out]
    go_wp2
    go_ret
    exact rr_class HV.out (((Below.refl _ _).alloc (Nat.le_refl _) _).alloc (by simp) _) (by rw [Bool.eq_iff_iff]; first | (simp; done) | (simp; omega) | (simp <;> omega))
  · clear hr hw hv hc
    have e1 : (area == 3) = false := by rw [beq_eq_false_iff_ne]; omega
    have e2 : (area == 4) = false := by rw [beq_eq_false_iff_ne]; omega
    subst t0
    go_enter Try.func66, Try.ntmps66
    go_wp2_with fail
    refine (reads_any _ _).mono ?_
    rintro e w' ⟨rfl, rfl⟩
    rw [HR.out]
    go_wp2_with fail
    refine (reads_any _ _).mono ?_
    rintro e w' ⟨rfl, rfl⟩
    rw [HR.out]
    go_wp2_with fail
    refine (writes_any _ _).mono ?_
    rintro e w' ⟨rfl, rfl⟩
    rw [HW.out]
    go_wp2
    go_ret
    exact rr_class HV.out (((Below.refl _ _).alloc (Nat.le_refl _) _).alloc (by simp) _) (by rw [Bool.eq_iff_iff]; first | (simp; done) | (simp; omega) | (simp <;> omega))
set_option maxRecDepth 100000 in
set_option maxHeartbeats 2000000 in
theorem rr_none (op kind area at_ n : Int) (hc : op < 1 ∨ 36 < op) (w : World) : Calls Try.prog 66 #[.agg #[.int .i64 op, .int .i64 kind, .int .i64 area, .int .i64 at_, .int .i64 n]] w fun e w' => e = .returned (.bool (rightS op kind area at_ n)) ∧ Below w.heap.size w w' := by
  have hr := readsB_no (op := op) (by omega)
  have hw := writesB_no (op := op) (by omega)
  have hv : rightS op kind area at_ n = false := by
    unfold rightS
    rw [if_neg (by rw [hr]; simp), if_neg (by rw [hr, hw]; simp), if_neg (by omega), if_neg (by omega), if_neg (by omega), if_neg (by omega), if_neg (by omega), if_neg (by omega)]
  have HR := Lib.hid hr
  have HW := Lib.hid hw
  have HV := Lib.hid hv
  rcases (by omega : (op < 1 ∧ op ≠ 13 ∧ op ≠ 31 ∧ op ≠ 32 ∧ op ≠ 33 ∧ op ≠ 34 ∧ op ≠ 35 ∧ op ≠ 36) ∨ (36 < op ∧ op ≠ 13 ∧ op ≠ 31 ∧ op ≠ 32 ∧ op ≠ 33 ∧ op ≠ 34 ∧ op ≠ 35 ∧ op ≠ 36)) with ⟨t0, t1, t2, t3, t4, t5, t6, t7⟩ | ⟨t0, t1, t2, t3, t4, t5, t6, t7⟩
  · clear hr hw hv hc
    have e1 : (op == 13) = false := by rw [beq_eq_false_iff_ne]; omega
    have e2 : (op == 31) = false := by rw [beq_eq_false_iff_ne]; omega
    have e3 : (op == 32) = false := by rw [beq_eq_false_iff_ne]; omega
    have e4 : (op == 33) = false := by rw [beq_eq_false_iff_ne]; omega
    have e5 : (op == 34) = false := by rw [beq_eq_false_iff_ne]; omega
    have e6 : (op == 35) = false := by rw [beq_eq_false_iff_ne]; omega
    have e7 : (op == 36) = false := by rw [beq_eq_false_iff_ne]; omega
    go_enter Try.func66, Try.ntmps66
    go_wp2_with fail
    refine (reads_any _ _).mono ?_
    rintro e w' ⟨rfl, rfl⟩
    rw [HR.out]
    go_wp2_with fail
    refine (reads_any _ _).mono ?_
    rintro e w' ⟨rfl, rfl⟩
    rw [HR.out]
    go_wp2_with fail
    refine (writes_any _ _).mono ?_
    rintro e w' ⟨rfl, rfl⟩
    rw [HW.out]
    go_wp2
    go_ret
    exact rr_class HV.out (((Below.refl _ _).alloc (Nat.le_refl _) _).alloc (by simp) _) (rfl)
  · clear hr hw hv hc
    have e1 : (op == 13) = false := by rw [beq_eq_false_iff_ne]; omega
    have e2 : (op == 31) = false := by rw [beq_eq_false_iff_ne]; omega
    have e3 : (op == 32) = false := by rw [beq_eq_false_iff_ne]; omega
    have e4 : (op == 33) = false := by rw [beq_eq_false_iff_ne]; omega
    have e5 : (op == 34) = false := by rw [beq_eq_false_iff_ne]; omega
    have e6 : (op == 35) = false := by rw [beq_eq_false_iff_ne]; omega
    have e7 : (op == 36) = false := by rw [beq_eq_false_iff_ne]; omega
    go_enter Try.func66, Try.ntmps66
    go_wp2_with fail
    refine (reads_any _ _).mono ?_
    rintro e w' ⟨rfl, rfl⟩
    rw [HR.out]
    go_wp2_with fail
    refine (reads_any _ _).mono ?_
    rintro e w' ⟨rfl, rfl⟩
    rw [HR.out]
    go_wp2_with fail
    refine (writes_any _ _).mono ?_
    rintro e w' ⟨rfl, rfl⟩
    rw [HW.out]
    go_wp2
    go_ret
    exact rr_class HV.out (((Below.refl _ _).alloc (Nat.le_refl _) _).alloc (by simp) _) (rfl)
theorem rright_any (op kind area at_ n : Int) (hi : -9223372036854775808 ≤ at_ ∧ at_ ≤ 9223372036854775807) (w : World) : Calls Try.prog 66 #[.agg #[.int .i64 op, .int .i64 kind, .int .i64 area, .int .i64 at_, .int .i64 n]] w fun e w' => e = .returned (.bool (rightS op kind area at_ n)) ∧ Below w.heap.size w w' := by
  rcases (by omega : (op = 1 ∨ op = 2 ∨ 7 ≤ op ∧ op ≤ 12 ∨ 14 ≤ op ∧ op ≤ 24) ∨ (3 ≤ op ∧ op ≤ 6) ∨ (25 ≤ op ∧ op ≤ 27) ∨ (op = 13 ∨ 28 ≤ op ∧ op ≤ 30 ∨ op = 33) ∨ op = 31 ∨ op = 32 ∨ op = 34 ∨ op = 35 ∨ op = 36 ∨ (op < 1 ∨ 36 < op)) with h | h | h | h | h | h | h | h | h | h
  · by_cases ha : area = 0
    · exact rr_lit op kind area at_ n (readsB_yes h) ha w
    · exact rr_reads op kind area at_ n hi (readsB_yes h) ha (writesB_no (by omega)) w
  · exact rr_writes op kind area at_ n hi (readsB_no (by omega)) (writesB_yes h) w
  · exact rr_jump op kind area at_ n h w
  · exact rr_bare op kind area at_ n h w
  · subst h; exact rr_conv kind area at_ n w
  · subst h; exact rr_open kind area at_ n w
  · exact rr_block34 op kind area at_ n h w
  · exact rr_block35 op kind area at_ n h w
  · exact rr_trig op kind area at_ n h w
  · exact rr_none op kind area at_ n h w
end Go.Proofs.Ytclbmgnpgjhlhaa
