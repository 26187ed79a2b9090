/- May an instruction be? The document's answer, walked (made by wip/mk_rright.py). -/
import Derived.Test.YtclbmgnpgjhlhaagIec
import Derived.Test.YtclbmgnpgjhlhaagBase
import Derived.Test.YtclbmgnpgjhlhaaWEqStruct
namespace Go.Proofs.Ytclbmgnpgjhlhaa
open Go.RowKit Go.Proofs.YtclbmgnpgjhlhaaW.PrintWords
theorem eqInstr (d : Nat) (w : World) (x0 y0 : Int) (x1 y1 : Int) (x2 y2 : Int) (x3 y3 : Int) (x4 y4 : Int) :
    (Op.equalIn (d + 2) 89 (.agg #[.int .i64 x0, .int .i64 x1, .int .i64 x2, .int .i64 x3, .int .i64 x4]) (.agg #[.int .i64 y0, .int .i64 y1, .int .i64 y2, .int .i64 y3, .int .i64 y4])).run Try.prog w = .ok (x0 == y0 && (x1 == y1 && (x2 == y2 && (x3 == y3 && (x4 == y4))))) w := by
  refine eqA_of Try.underlying89 (by kernel_rfl) ?_
  refine eqf_cons (by rfl) (by go_simp; rfl) (by go_simp; rfl) (by go_simp) ?_
  refine eqf_cons (by rfl) (by go_simp; rfl) (by go_simp; rfl) (by go_simp) ?_
  refine eqf_cons (by rfl) (by go_simp; rfl) (by go_simp; rfl) (by go_simp) ?_
  refine eqf_cons (by rfl) (by go_simp; rfl) (by go_simp; rfl) (by go_simp) ?_
  exact eqf_last (by rfl) (by go_simp; rfl) (by go_simp; rfl) (by go_simp)
attribute [local go_sem high] eqInstr
def readsB (op : Int) : Bool := decide (op = 1 ∨ op = 2 ∨ 7 ≤ op ∧ op ≤ 12 ∨ 14 ≤ op ∧ op ≤ 24)
def writesB (op : Int) : Bool := decide (3 ≤ op ∧ op ≤ 6)
/-- May an instruction be? -/
def rightS (op kind area at_ n : Int) : Bool :=
  if readsB op = true ∧ area = 0 then isK (kN kind) n && decide (at_ = 0)
  else if readsB op = true ∨ writesB op = true then thereB 64 at_ (sizeK (kN kind)) && decide (1 ≤ area ∧ area ≤ 4 ∧ n = 0) && !(writesB op && decide (area = 1))
  else if 25 ≤ op ∧ op ≤ 27 then decide (0 ≤ at_ ∧ at_ ≤ 200 ∧ kind = 0 ∧ area = 0 ∧ n = 0)
  else if op = 13 ∨ 28 ≤ op ∧ op ≤ 30 ∨ op = 33 then decide (kind = 0 ∧ area = 0 ∧ at_ = 0 ∧ n = 0)
  else if op = 31 then decide (0 < sizeK (kN kind) ∧ area = 0 ∧ at_ = 0 ∧ n = 0)
  else if op = 32 then readsB at_ && decide (2 < at_ ∧ kind = 0 ∧ area = 0 ∧ n = 0)
  else if op = 34 ∨ op = 35 then decide ((area = 3 ∨ area = 4) ∧ 0 ≤ at_ ∧ at_ ≤ 59 ∧ 1 ≤ n ∧ n ≤ 9999 ∧ kind = 0)
  else if op = 36 then decide ((area = 3 ∨ area = 4) ∧ 0 ≤ at_ ∧ at_ ≤ 63 ∧ kind = 0 ∧ n = 0)
  else false
theorem readsB_yes {op : Int} (h : op = 1 ∨ op = 2 ∨ 7 ≤ op ∧ op ≤ 12 ∨ 14 ≤ op ∧ op ≤ 24) : readsB op = true := decide_eq_true h
theorem readsB_no {op : Int} (h : ¬ (op = 1 ∨ op = 2 ∨ 7 ≤ op ∧ op ≤ 12 ∨ 14 ≤ op ∧ op ≤ 24)) : readsB op = false := decide_eq_false h
theorem writesB_yes {op : Int} (h : 3 ≤ op ∧ op ≤ 6) : writesB op = true := decide_eq_true h
theorem writesB_no {op : Int} (h : ¬ (3 ≤ op ∧ op ≤ 6)) : writesB op = false := decide_eq_false h
set_option maxRecDepth 100000 in
set_option maxHeartbeats 2000000 in
theorem reads_any (op : Int) (w : World) : Calls Try.prog 82 #[.int .i64 op] w fun e w' => e = .returned (.bool (readsB op)) ∧ w = w' := by
  rcases (by omega : op = 1 ∨ op = 2 ∨ op < 1 ∨ (3 ≤ op ∧ op ≤ 6) ∨ (7 ≤ op ∧ op ≤ 12) ∨ op = 13 ∨ (14 ≤ op ∧ op ≤ 24) ∨ 24 < op) with h | h | h | h | h | h | h | h
  · subst h
    go_enter Try.func82, Try.ntmps82
    go_wp2
    go_ret
    exact ⟨rfl, rfl⟩
  · subst h
    go_enter Try.func82, Try.ntmps82
    go_wp2
    go_ret
    exact ⟨rfl, rfl⟩
  · have hb := readsB_no (op := op) (by omega)
    have h1 : (op == 1) = false := by rw [beq_eq_false_iff_ne]; omega
    have h2 : (op == 2) = false := by rw [beq_eq_false_iff_ne]; omega
    have g1 : ¬ 7 ≤ op := by omega
    have g2 : ¬ 14 ≤ op := by omega
    have HB := Lib.hid hb
    clear hb h
    go_enter Try.func82, Try.ntmps82
    go_wp2
    go_ret
    exact ⟨ret_bool (by first | exact HB.out.symm | (rw [HB.out]; simp <;> omega)), rfl⟩
  · have hb := readsB_no (op := op) (by omega)
    have h1 : (op == 1) = false := by rw [beq_eq_false_iff_ne]; omega
    have h2 : (op == 2) = false := by rw [beq_eq_false_iff_ne]; omega
    have g1 : ¬ 7 ≤ op := by omega
    have g2 : ¬ 14 ≤ op := by omega
    have HB := Lib.hid hb
    clear hb h
    go_enter Try.func82, Try.ntmps82
    go_wp2
    go_ret
    exact ⟨ret_bool (by first | exact HB.out.symm | (rw [HB.out]; simp <;> omega)), rfl⟩
  · have hb := readsB_yes (op := op) (by omega)
    have h1 : (op == 1) = false := by rw [beq_eq_false_iff_ne]; omega
    have h2 : (op == 2) = false := by rw [beq_eq_false_iff_ne]; omega
    have g1 : 7 ≤ op := by omega
    have g2 : op ≤ 12 := by omega
    have HB := Lib.hid hb
    clear hb h
    go_enter Try.func82, Try.ntmps82
    go_wp2
    go_ret
    exact ⟨ret_bool (by first | exact HB.out.symm | (rw [HB.out]; simp <;> omega)), rfl⟩
  · subst h
    go_enter Try.func82, Try.ntmps82
    go_wp2
    go_ret
    exact ⟨rfl, rfl⟩
  · have hb := readsB_yes (op := op) (by omega)
    have h1 : (op == 1) = false := by rw [beq_eq_false_iff_ne]; omega
    have h2 : (op == 2) = false := by rw [beq_eq_false_iff_ne]; omega
    have g1 : 7 ≤ op := by omega
    have g2 : ¬ op ≤ 12 := by omega
    have g3 : 14 ≤ op := by omega
    have g4 : op ≤ 24 := by omega
    have HB := Lib.hid hb
    clear hb h
    go_enter Try.func82, Try.ntmps82
    go_wp2
    go_ret
    exact ⟨ret_bool (by first | exact HB.out.symm | (rw [HB.out]; simp <;> omega)), rfl⟩
  · have hb := readsB_no (op := op) (by omega)
    have h1 : (op == 1) = false := by rw [beq_eq_false_iff_ne]; omega
    have h2 : (op == 2) = false := by rw [beq_eq_false_iff_ne]; omega
    have g1 : 7 ≤ op := by omega
    have g2 : ¬ op ≤ 12 := by omega
    have g3 : 14 ≤ op := by omega
    have g4 : ¬ op ≤ 24 := by omega
    have HB := Lib.hid hb
    clear hb h
    go_enter Try.func82, Try.ntmps82
    go_wp2
    go_ret
    exact ⟨ret_bool (by first | exact HB.out.symm | (rw [HB.out]; simp <;> omega)), rfl⟩
set_option maxRecDepth 100000 in
set_option maxHeartbeats 2000000 in
theorem writes_any (op : Int) (w : World) : Calls Try.prog 83 #[.int .i64 op] w fun e w' => e = .returned (.bool (writesB op)) ∧ w = w' := by
  rcases (by omega : (3 ≤ op ∧ op ≤ 6) ∨ op < 3 ∨ 6 < op) with h | h | h
  · have hb := writesB_yes (op := op) (by omega)
    have g1 : 3 ≤ op := by omega
    have g2 : op ≤ 6 := by omega
    have HB := Lib.hid hb
    clear hb h
    go_enter Try.func83, Try.ntmps83
    go_wp2
    go_ret
    exact ⟨ret_bool (by first | exact HB.out.symm | (rw [HB.out]; simp <;> omega)), rfl⟩
  · have hb := writesB_no (op := op) (by omega)
    have g1 : ¬ 3 ≤ op := by omega
    have HB := Lib.hid hb
    clear hb h
    go_enter Try.func83, Try.ntmps83
    go_wp2
    go_ret
    exact ⟨ret_bool (by first | exact HB.out.symm | (rw [HB.out]; simp <;> omega)), rfl⟩
  · have hb := writesB_no (op := op) (by omega)
    have g1 : 3 ≤ op := by omega
    have g2 : ¬ op ≤ 6 := by omega
    have HB := Lib.hid hb
    clear hb h
    go_enter Try.func83, Try.ntmps83
    go_wp2
    go_ret
    exact ⟨ret_bool (by first | exact HB.out.symm | (rw [HB.out]; simp <;> omega)), rfl⟩
theorem rr_class {op kind area at_ n : Int} {b : Bool} {w w' : World} (h : rightS op kind area at_ n = b) (hb : Below w.heap.size w w') {c : Bool} (hc : c = b) : Ending.returned (.bool c) = .returned (.bool (rightS op kind area at_ n)) ∧ Below w.heap.size w w' := by
  subst h hc
  exact ⟨rfl, hb⟩
set_option maxRecDepth 100000 in
set_option maxHeartbeats 2000000 in
theorem rr_lit (op kind area at_ n : Int) (hr : readsB op = true) (ha : area = 0) (w : World) : Calls Try.prog 66 #[.agg #[.int .i64 op, .int .i64 kind, .int .i64 area, .int .i64 at_, .int .i64 n]] w fun e w' => e = .returned (.bool (rightS op kind area at_ n)) ∧ Below w.heap.size w w' := by
  have hv : rightS op kind area at_ n = (isK (kN kind) n && decide (at_ = 0)) := by unfold rightS; rw [if_pos ⟨hr, ha⟩]
  subst ha
  have HR := Lib.hid hr
  have HV := Lib.hid hv
  clear hr hv
  go_enter Try.func66, Try.ntmps66
  go_wp2_with fail
  refine (reads_any _ _).mono ?_
  rintro e w' ⟨rfl, rfl⟩
  rw [HR.out]
  go_wp2_with fail
  refine (ris_any kind n _).mono ?_
  rintro e w1 ⟨rfl, hb⟩
  have hz : (w.alloc (.cells #[.int .i64 op, .int .i64 kind, .int .i64 0, .int .i64 at_, .int .i64 n] 89)).heap.size = w.heap.size + 1 := by simp
  have o0 := below_obj hb ((ObjAt.new w #[.int .i64 op, .int .i64 kind, .int .i64 0, .int .i64 at_, .int .i64 n] 89).alloc (.cells #[.int .i64 op, .int .i64 kind, .int .i64 0, .int .i64 0, .int .i64 n] 89))
  have o1 := below_obj hb (ObjAt.new (w.alloc (.cells #[.int .i64 op, .int .i64 kind, .int .i64 0, .int .i64 at_, .int .i64 n] 89)) #[.int .i64 op, .int .i64 kind, .int .i64 0, .int .i64 0, .int .i64 n] 89)
  rw [hz] at o1
  have HB := Lib.hid ((((Below.refl w.heap.size w).alloc (Nat.le_refl _) (.cells #[.int .i64 op, .int .i64 kind, .int .i64 0, .int .i64 at_, .int .i64 n] 89)).alloc (by simp) (.cells #[.int .i64 op, .int .i64 kind, .int .i64 0, .int .i64 0, .int .i64 n] 89)).trans (hb.mono (by simp; omega)))
  have c0 : w1.cell? ⟨w.heap.size, 0, none⟩ = some (.int .i64 op) := o0.cell 0
  have c1 : w1.cell? ⟨w.heap.size, 1, none⟩ = some (.int .i64 kind) := o0.cell 1
  have c2 : w1.cell? ⟨w.heap.size, 2, none⟩ = some (.int .i64 0) := o0.cell 2
  have c3 : w1.cell? ⟨w.heap.size, 3, none⟩ = some (.int .i64 at_) := o0.cell 3
  have c4 : w1.cell? ⟨w.heap.size, 4, none⟩ = some (.int .i64 n) := o0.cell 4
  have d0 : w1.cell? ⟨w.heap.size + 1, 0, none⟩ = some (.int .i64 op) := o1.cell 0
  have d1 : w1.cell? ⟨w.heap.size + 1, 1, none⟩ = some (.int .i64 kind) := o1.cell 1
  have d2 : w1.cell? ⟨w.heap.size + 1, 2, none⟩ = some (.int .i64 0) := o1.cell 2
  have d3 : w1.cell? ⟨w.heap.size + 1, 3, none⟩ = some (.int .i64 0) := o1.cell 3
  have d4 : w1.cell? ⟨w.heap.size + 1, 4, none⟩ = some (.int .i64 n) := o1.cell 4
  clear o0 o1 hz hb
  rcases hq : isK (kN kind) n with _ | _
  · have HQ := Lib.hid hq
    clear hq
    go_wp2
    go_ret
    exact rr_class HV.out HB.out (by rw [HQ.out]; rfl)
  · have HQ := Lib.hid hq
    clear hq
    go_wp2
    go_ret
    exact rr_class HV.out HB.out (by rw [HQ.out, Bool.eq_iff_iff]; first | (simp; done) | (simp; omega) | (simp <;> omega))
set_option maxRecDepth 100000 in
set_option maxHeartbeats 2000000 in
theorem rr_reads (op kind area at_ n : Int) (hi : -9223372036854775808 ≤ at_ ∧ at_ ≤ 9223372036854775807) (hr : readsB op = true) (ha : area ≠ 0) (hw : writesB op = false) (w : World) : Calls Try.prog 66 #[.agg #[.int .i64 op, .int .i64 kind, .int .i64 area, .int .i64 at_, .int .i64 n]] w fun e w' => e = .returned (.bool (rightS op kind area at_ n)) ∧ Below w.heap.size w w' := by
  have hv : rightS op kind area at_ n = (thereB 64 at_ (sizeK (kN kind)) && decide (1 ≤ area ∧ area ≤ 4 ∧ n = 0) && !(false && decide (area = 1))) := by
    unfold rightS
    rw [if_neg (by rw [hr]; simp; exact ha), if_pos (by rw [hr, hw]; simp), hw]
  have HR := Lib.hid hr
  have HW := Lib.hid hw
  have HV := Lib.hid hv
  clear hr hw hv
  have ha0 : (area == 0) = false := by rw [beq_eq_false_iff_ne]; exact ha
  clear ha
  go_enter Try.func66, Try.ntmps66
  go_wp2_with fail
  refine (reads_any _ _).mono ?_
  rintro e w' ⟨rfl, rfl⟩
  rw [HR.out]
  go_wp2_with fail
  refine (reads_any _ _).mono ?_
  rintro e w' ⟨rfl, rfl⟩
  rw [HR.out]
  go_wp2_with fail
  refine (rthere_any 64 at_ kind (by omega) hi _).mono ?_
  rintro e w1 ⟨rfl, hb⟩
  have hz : (w.alloc (.cells #[.int .i64 op, .int .i64 kind, .int .i64 area, .int .i64 at_, .int .i64 n] 89)).heap.size = w.heap.size + 1 := by simp
  have o0 := below_obj hb ((ObjAt.new w #[.int .i64 op, .int .i64 kind, .int .i64 area, .int .i64 at_, .int .i64 n] 89).alloc (.cells #[.int .i64 op, .int .i64 kind, .int .i64 area, .int .i64 at_, .int .i64 0] 89))
  have o1 := below_obj hb (ObjAt.new (w.alloc (.cells #[.int .i64 op, .int .i64 kind, .int .i64 area, .int .i64 at_, .int .i64 n] 89)) #[.int .i64 op, .int .i64 kind, .int .i64 area, .int .i64 at_, .int .i64 0] 89)
  rw [hz] at o1
  have HB := Lib.hid ((((Below.refl w.heap.size w).alloc (Nat.le_refl _) (.cells #[.int .i64 op, .int .i64 kind, .int .i64 area, .int .i64 at_, .int .i64 n] 89)).alloc (by simp) (.cells #[.int .i64 op, .int .i64 kind, .int .i64 area, .int .i64 at_, .int .i64 0] 89)).trans (hb.mono (by simp; omega)))
  have c0 : w1.cell? ⟨w.heap.size, 0, none⟩ = some (.int .i64 op) := o0.cell 0
  have c1 : w1.cell? ⟨w.heap.size, 1, none⟩ = some (.int .i64 kind) := o0.cell 1
  have c2 : w1.cell? ⟨w.heap.size, 2, none⟩ = some (.int .i64 area) := o0.cell 2
  have c3 : w1.cell? ⟨w.heap.size, 3, none⟩ = some (.int .i64 at_) := o0.cell 3
  have c4 : w1.cell? ⟨w.heap.size, 4, none⟩ = some (.int .i64 n) := o0.cell 4
  have d0 : w1.cell? ⟨w.heap.size + 1, 0, none⟩ = some (.int .i64 op) := o1.cell 0
  have d1 : w1.cell? ⟨w.heap.size + 1, 1, none⟩ = some (.int .i64 kind) := o1.cell 1
  have d2 : w1.cell? ⟨w.heap.size + 1, 2, none⟩ = some (.int .i64 area) := o1.cell 2
  have d3 : w1.cell? ⟨w.heap.size + 1, 3, none⟩ = some (.int .i64 at_) := o1.cell 3
  have d4 : w1.cell? ⟨w.heap.size + 1, 4, none⟩ = some (.int .i64 0) := o1.cell 4
  clear o0 o1 hz hb
  rcases hq : thereB 64 at_ (sizeK (kN kind)) with _ | _
  · have HQ := Lib.hid hq
    clear hq
    go_wp2
    go_ret
    exact rr_class HV.out HB.out (by rw [HQ.out]; rfl)
  · have HQ := Lib.hid hq
    clear hq
    rcases (by omega : area < 1 ∨ 4 < area ∨ (1 ≤ area ∧ area ≤ 4)) with hl | hl | ⟨hl, hm⟩
    · go_wp2
      go_ret
      exact rr_class HV.out HB.out (by rw [HQ.out, Bool.eq_iff_iff]; first | (simp; done) | (simp; omega) | (simp <;> omega))
    · have hl2 : 1 ≤ area := by omega
      go_wp2
      go_ret
      exact rr_class HV.out HB.out (by rw [HQ.out, Bool.eq_iff_iff]; first | (simp; done) | (simp; omega) | (simp <;> omega))
    · go_wp2_with fail
      refine (writes_any _ _).mono ?_
      rintro e w' ⟨rfl, rfl⟩
      rw [HW.out]
      go_wp2
      go_ret
      exact rr_class HV.out HB.out (by rw [HQ.out, Bool.eq_iff_iff]; first | (simp; done) | (simp; omega) | (simp <;> omega))
set_option maxRecDepth 100000 in
set_option maxHeartbeats 2000000 in
theorem rr_writes (op kind area at_ n : Int) (hi : -9223372036854775808 ≤ at_ ∧ at_ ≤ 9223372036854775807) (hr : readsB op = false) (hw : writesB op = true) (w : World) : Calls Try.prog 66 #[.agg #[.int .i64 op, .int .i64 kind, .int .i64 area, .int .i64 at_, .int .i64 n]] w fun e w' => e = .returned (.bool (rightS op kind area at_ n)) ∧ Below w.heap.size w w' := by
  have hv : rightS op kind area at_ n = (thereB 64 at_ (sizeK (kN kind)) && decide (1 ≤ area ∧ area ≤ 4 ∧ n = 0) && !(true && decide (area = 1))) := by
    unfold rightS
    rw [if_neg (by rw [hr]; simp), if_pos (by rw [hr, hw]; simp), hw]
  have HR := Lib.hid hr
  have HW := Lib.hid hw
  have HV := Lib.hid hv
  clear hr hw hv
  go_enter Try.func66, Try.ntmps66
  go_wp2_with fail
  refine (reads_any _ _).mono ?_
  rintro e w' ⟨rfl, rfl⟩
  rw [HR.out]
  go_wp2_with fail
  refine (reads_any _ _).mono ?_
  rintro e w' ⟨rfl, rfl⟩
  rw [HR.out]
  go_wp2_with fail
  refine (writes_any _ _).mono ?_
  rintro e w' ⟨rfl, rfl⟩
  rw [HW.out]
  go_wp2_with fail
  refine (rthere_any 64 at_ kind (by omega) hi _).mono ?_
  rintro e w1 ⟨rfl, hb⟩
  have hz : (w.alloc (.cells #[.int .i64 op, .int .i64 kind, .int .i64 area, .int .i64 at_, .int .i64 n] 89)).heap.size = w.heap.size + 1 := by simp
  have o0 := below_obj hb ((ObjAt.new w #[.int .i64 op, .int .i64 kind, .int .i64 area, .int .i64 at_, .int .i64 n] 89).alloc (.cells #[.int .i64 op, .int .i64 kind, .int .i64 area, .int .i64 at_, .int .i64 0] 89))
  have o1 := below_obj hb (ObjAt.new (w.alloc (.cells #[.int .i64 op, .int .i64 kind, .int .i64 area, .int .i64 at_, .int .i64 n] 89)) #[.int .i64 op, .int .i64 kind, .int .i64 area, .int .i64 at_, .int .i64 0] 89)
  rw [hz] at o1
  have HB := Lib.hid ((((Below.refl w.heap.size w).alloc (Nat.le_refl _) (.cells #[.int .i64 op, .int .i64 kind, .int .i64 area, .int .i64 at_, .int .i64 n] 89)).alloc (by simp) (.cells #[.int .i64 op, .int .i64 kind, .int .i64 area, .int .i64 at_, .int .i64 0] 89)).trans (hb.mono (by simp; omega)))
  have c0 : w1.cell? ⟨w.heap.size, 0, none⟩ = some (.int .i64 op) := o0.cell 0
  have c1 : w1.cell? ⟨w.heap.size, 1, none⟩ = some (.int .i64 kind) := o0.cell 1
  have c2 : w1.cell? ⟨w.heap.size, 2, none⟩ = some (.int .i64 area) := o0.cell 2
  have c3 : w1.cell? ⟨w.heap.size, 3, none⟩ = some (.int .i64 at_) := o0.cell 3
  have c4 : w1.cell? ⟨w.heap.size, 4, none⟩ = some (.int .i64 n) := o0.cell 4
  have d0 : w1.cell? ⟨w.heap.size + 1, 0, none⟩ = some (.int .i64 op) := o1.cell 0
  have d1 : w1.cell? ⟨w.heap.size + 1, 1, none⟩ = some (.int .i64 kind) := o1.cell 1
  have d2 : w1.cell? ⟨w.heap.size + 1, 2, none⟩ = some (.int .i64 area) := o1.cell 2
  have d3 : w1.cell? ⟨w.heap.size + 1, 3, none⟩ = some (.int .i64 at_) := o1.cell 3
  have d4 : w1.cell? ⟨w.heap.size + 1, 4, none⟩ = some (.int .i64 0) := o1.cell 4
  clear o0 o1 hz hb
  rcases hq : thereB 64 at_ (sizeK (kN kind)) with _ | _
  · have HQ := Lib.hid hq
    clear hq
    go_wp2
    go_ret
    exact rr_class HV.out HB.out (by rw [HQ.out]; rfl)
  · have HQ := Lib.hid hq
    clear hq
    rcases (by omega : area < 1 ∨ 4 < area ∨ (1 ≤ area ∧ area ≤ 4)) with hl | hl | ⟨hl, hm⟩
    · go_wp2
      go_ret
      exact rr_class HV.out HB.out (by rw [HQ.out, Bool.eq_iff_iff]; first | (simp; done) | (simp; omega) | (simp <;> omega))
    · have hl2 : 1 ≤ area := by omega
      go_wp2
      go_ret
      exact rr_class HV.out HB.out (by rw [HQ.out, Bool.eq_iff_iff]; first | (simp; done) | (simp; omega) | (simp <;> omega))
    · go_wp2_with fail
      refine (writes_any _ _).mono ?_
      rintro e w' ⟨rfl, rfl⟩
      rw [HW.out]
      rcases (by omega : area = 1 ∨ 2 ≤ area) with h1 | h1
      · subst h1
        go_wp2
        go_ret
        exact rr_class HV.out HB.out (by rw [HQ.out, Bool.eq_iff_iff]; first | (simp; done) | (simp; omega) | (simp <;> omega))
      · have h2 : (area == 1) = false := by rw [beq_eq_false_iff_ne]; omega
        go_wp2
        go_ret
        exact rr_class HV.out HB.out (by rw [HQ.out, Bool.eq_iff_iff]; first | (simp; done) | (simp; omega) | (simp <;> omega))
set_option maxRecDepth 100000 in
set_option maxHeartbeats 2000000 in
theorem rr_jump (op kind area at_ n : Int) (hc : 25 ≤ op ∧ op ≤ 27) (w : World) : Calls Try.prog 66 #[.agg #[.int .i64 op, .int .i64 kind, .int .i64 area, .int .i64 at_, .int .i64 n]] w fun e w' => e = .returned (.bool (rightS op kind area at_ n)) ∧ Below w.heap.size w w' := by
  have hr := readsB_no (op := op) (by omega)
  have hw := writesB_no (op := op) (by omega)
  have hv : rightS op kind area at_ n = decide (0 ≤ at_ ∧ at_ ≤ 200 ∧ kind = 0 ∧ area = 0 ∧ n = 0) := by
    unfold rightS
    rw [if_neg (by rw [hr]; simp), if_neg (by rw [hr, hw]; simp), if_pos hc]
  have : 25 ≤ op := by omega
  have : op ≤ 27 := by omega
  have HR := Lib.hid hr
  have HW := Lib.hid hw
  have HV := Lib.hid hv
  rcases (by omega : (at_ < 0) ∨ (0 ≤ at_ ∧ at_ ≤ 200) ∨ (0 ≤ at_ ∧ 200 < at_)) with t0 | ⟨t0, t1⟩ | ⟨t0, t1⟩
  · clear hr hw hv hc
    go_enter Try.func66, Try.ntmps66
    go_wp2_with fail
    refine (reads_any _ _).mono ?_
    rintro e w' ⟨rfl, rfl⟩
    rw [HR.out]
    go_wp2_with fail
    refine (reads_any _ _).mono ?_
    rintro e w' ⟨rfl, rfl⟩
    rw [HR.out]
    go_wp2_with fail
    refine (writes_any _ _).mono ?_
    rintro e w' ⟨rfl, rfl⟩
    rw [HW.out]
    go_wp2
    go_ret
    exact rr_class HV.out (((Below.refl _ _).alloc (Nat.le_refl _) _).alloc (by simp) _) (by rw [Bool.eq_iff_iff]; first | (simp; done) | (simp; omega) | (simp <;> omega))
  · clear hr hw hv hc
    go_enter Try.func66, Try.ntmps66
    go_wp2_with fail
    refine (reads_any _ _).mono ?_
    rintro e w' ⟨rfl, rfl⟩
    rw [HR.out]
    go_wp2_with fail
    refine (reads_any _ _).mono ?_
    rintro e w' ⟨rfl, rfl⟩
    rw [HR.out]
    go_wp2_with fail
    refine (writes_any _ _).mono ?_
    rintro e w' ⟨rfl, rfl⟩
    rw [HW.out]
    go_wp2
    go_ret
    exact rr_class HV.out (((Below.refl _ _).alloc (Nat.le_refl _) _).alloc (by simp) _) (by rw [Bool.eq_iff_iff]; first | (simp; done) | (simp; omega) | (simp <;> omega))
  · clear hr hw hv hc
    go_enter Try.func66, Try.ntmps66
    go_wp2_with fail
    refine (reads_any _ _).mono ?_
    rintro e w' ⟨rfl, rfl⟩
    rw [HR.out]
    go_wp2_with fail
    refine (reads_any _ _).mono ?_
    rintro e w' ⟨rfl, rfl⟩
    rw [HR.out]
    go_wp2_with fail
    refine (writes_any _ _).mono ?_
    rintro e w' ⟨rfl, rfl⟩
    rw [HW.out]
    go_wp2
    go_ret
    exact rr_class HV.out (((Below.refl _ _).alloc (Nat.le_refl _) _).alloc (by simp) _) (by rw [Bool.eq_iff_iff]; first | (simp; done) | (simp; omega) | (simp <;> omega))
set_option maxRecDepth 100000 in
set_option maxHeartbeats 2000000 in
theorem rr_bare (op kind area at_ n : Int) (hc : op = 13 ∨ 28 ≤ op ∧ op ≤ 30 ∨ op = 33) (w : World) : Calls Try.prog 66 #[.agg #[.int .i64 op, .int .i64 kind, .int .i64 area, .int .i64 at_, .int .i64 n]] w fun e w' => e = .returned (.bool (rightS op kind area at_ n)) ∧ Below w.heap.size w w' := by
  have hr := readsB_no (op := op) (by omega)
  have hw := writesB_no (op := op) (by omega)
  have hv : rightS op kind area at_ n = decide (kind = 0 ∧ area = 0 ∧ at_ = 0 ∧ n = 0) := by
    unfold rightS
    rw [if_neg (by rw [hr]; simp), if_neg (by rw [hr, hw]; simp), if_neg (by omega), if_pos hc]
  have HR := Lib.hid hr
  have HW := Lib.hid hw
  have HV := Lib.hid hv
  rcases (by omega : (op = 13) ∨ (28 ≤ op ∧ op ≤ 30 ∧ op ≠ 13) ∨ (op = 33)) with t0 | ⟨t0, t1, t2⟩ | t0
  · clear hr hw hv hc
    subst t0
    go_enter Try.func66, Try.ntmps66
    go_wp2_with fail
    refine (reads_any _ _).mono ?_
    rintro e w' ⟨rfl, rfl⟩
    rw [HR.out]
    go_wp2_with fail
    refine (reads_any _ _).mono ?_
    rintro e w' ⟨rfl, rfl⟩
    rw [HR.out]
    go_wp2_with fail
    refine (writes_any _ _).mono ?_
    rintro e w' ⟨rfl, rfl⟩
    rw [HW.out]
    go_wp2
    go_ret
    exact rr_class HV.out (((Below.refl _ _).alloc (Nat.le_refl _) _).alloc (by simp) _) (by rw [Bool.eq_iff_iff]; first | (simp; done) | (simp; omega) | (simp <;> omega))
  · clear hr hw hv hc
    have e2 : (op == 13) = false := by rw [beq_eq_false_iff_ne]; omega
    go_enter Try.func66, Try.ntmps66
    go_wp2_with fail
    refine (reads_any _ _).mono ?_
    rintro e w' ⟨rfl, rfl⟩
    rw [HR.out]
    go_wp2_with fail
    refine (reads_any _ _).mono ?_
    rintro e w' ⟨rfl, rfl⟩
    rw [HR.out]
    go_wp2_with fail
    refine (writes_any _ _).mono ?_
    rintro e w' ⟨rfl, rfl⟩
    rw [HW.out]
    go_wp2
    go_ret
    exact rr_class HV.out (((Below.refl _ _).alloc (Nat.le_refl _) _).alloc (by simp) _) (by rw [Bool.eq_iff_iff]; first | (simp; done) | (simp; omega) | (simp <;> omega))
  · clear hr hw hv hc
    subst t0
    go_enter Try.func66, Try.ntmps66
    go_wp2_with fail
    refine (reads_any _ _).mono ?_
    rintro e w' ⟨rfl, rfl⟩
    rw [HR.out]
    go_wp2_with fail
    refine (reads_any _ _).mono ?_
    rintro e w' ⟨rfl, rfl⟩
    rw [HR.out]
    go_wp2_with fail
    refine (writes_any _ _).mono ?_
    rintro e w' ⟨rfl, rfl⟩
    rw [HW.out]
    go_wp2
    go_ret
    exact rr_class HV.out (((Below.refl _ _).alloc (Nat.le_refl _) _).alloc (by simp) _) (by rw [Bool.eq_iff_iff]; first | (simp; done) | (simp; omega) | (simp <;> omega))
set_option maxRecDepth 100000 in
set_option maxHeartbeats 2000000 in
theorem rr_conv (kind area at_ n : Int) (w : World) : Calls Try.prog 66 #[.agg #[.int .i64 31, .int .i64 kind, .int .i64 area, .int .i64 at_, .int .i64 n]] w fun e w' => e = .returned (.bool (rightS 31 kind area at_ n)) ∧ Below w.heap.size w w' := by
  have hr := readsB_no (op := 31) (by omega)
  have hw := writesB_no (op := 31) (by omega)
  have hv : rightS 31 kind area at_ n = decide (0 < sizeK (kN kind) ∧ area = 0 ∧ at_ = 0 ∧ n = 0) := by
    unfold rightS
    rw [if_neg (by rw [hr]; simp), if_neg (by rw [hr, hw]; simp), if_neg (by omega), if_neg (by omega), if_pos rfl]
  have HR := Lib.hid hr
  have HW := Lib.hid hw
  have HV := Lib.hid hv
  clear hr hw hv
  go_enter Try.func66, Try.ntmps66
  go_wp2_with fail
  refine (reads_any _ _).mono ?_
  rintro e w' ⟨rfl, rfl⟩
  rw [HR.out]
  go_wp2_with fail
  refine (reads_any _ _).mono ?_
  rintro e w' ⟨rfl, rfl⟩
  rw [HR.out]
  go_wp2_with fail
  refine (writes_any _ _).mono ?_
  rintro e w' ⟨rfl, rfl⟩
  rw [HW.out]
  go_wp2_with fail
  refine (rsize_any kind _).mono ?_
  rintro e w1 ⟨rfl, hb⟩
  have hz : (w.alloc (.cells #[.int .i64 31, .int .i64 kind, .int .i64 area, .int .i64 at_, .int .i64 n] 89)).heap.size = w.heap.size + 1 := by simp
  have o0 := below_obj hb ((ObjAt.new w #[.int .i64 31, .int .i64 kind, .int .i64 area, .int .i64 at_, .int .i64 n] 89).alloc (.cells #[.int .i64 31, .int .i64 kind, .int .i64 0, .int .i64 0, .int .i64 0] 89))
  have o1 := below_obj hb (ObjAt.new (w.alloc (.cells #[.int .i64 31, .int .i64 kind, .int .i64 area, .int .i64 at_, .int .i64 n] 89)) #[.int .i64 31, .int .i64 kind, .int .i64 0, .int .i64 0, .int .i64 0] 89)
  rw [hz] at o1
  have HB := Lib.hid ((((Below.refl w.heap.size w).alloc (Nat.le_refl _) (.cells #[.int .i64 31, .int .i64 kind, .int .i64 area, .int .i64 at_, .int .i64 n] 89)).alloc (by simp) (.cells #[.int .i64 31, .int .i64 kind, .int .i64 0, .int .i64 0, .int .i64 0] 89)).trans (hb.mono (by simp; omega)))
  have c0 : w1.cell? ⟨w.heap.size, 0, none⟩ = some (.int .i64 31) := o0.cell 0
  have c1 : w1.cell? ⟨w.heap.size, 1, none⟩ = some (.int .i64 kind) := o0.cell 1
  have c2 : w1.cell? ⟨w.heap.size, 2, none⟩ = some (.int .i64 area) := o0.cell 2
  have c3 : w1.cell? ⟨w.heap.size, 3, none⟩ = some (.int .i64 at_) := o0.cell 3
  have c4 : w1.cell? ⟨w.heap.size, 4, none⟩ = some (.int .i64 n) := o0.cell 4
  have d0 : w1.cell? ⟨w.heap.size + 1, 0, none⟩ = some (.int .i64 31) := o1.cell 0
  have d1 : w1.cell? ⟨w.heap.size + 1, 1, none⟩ = some (.int .i64 kind) := o1.cell 1
  have d2 : w1.cell? ⟨w.heap.size + 1, 2, none⟩ = some (.int .i64 0) := o1.cell 2
  have d3 : w1.cell? ⟨w.heap.size + 1, 3, none⟩ = some (.int .i64 0) := o1.cell 3
  have d4 : w1.cell? ⟨w.heap.size + 1, 4, none⟩ = some (.int .i64 0) := o1.cell 4
  clear o0 o1 hz hb
  rcases (by omega : 0 < sizeK (kN kind) ∨ sizeK (kN kind) ≤ 0) with hq | hq
  all_goals
    go_wp2
    go_ret
    exact rr_class HV.out HB.out (by rw [Bool.eq_iff_iff]; first | (simp; done) | (simp; omega) | (simp <;> omega))
set_option maxRecDepth 100000 in
set_option maxHeartbeats 2000000 in
theorem rr_open (kind area at_ n : Int) (w : World) : Calls Try.prog 66 #[.agg #[.int .i64 32, .int .i64 kind, .int .i64 area, .int .i64 at_, .int .i64 n]] w fun e w' => e = .returned (.bool (rightS 32 kind area at_ n)) ∧ Below w.heap.size w w' := by
  have hr := readsB_no (op := 32) (by omega)
  have hw := writesB_no (op := 32) (by omega)
  have hv : rightS 32 kind area at_ n = (readsB at_ && decide (2 < at_ ∧ kind = 0 ∧ area = 0 ∧ n = 0)) := by
    unfold rightS
    rw [if_neg (by rw [hr]; simp), if_neg (by rw [hr, hw]; simp), if_neg (by omega), if_neg (by omega), if_neg (by omega), if_pos rfl]
  have HR := Lib.hid hr
  have HW := Lib.hid hw
  have HV := Lib.hid hv
  clear hr hw hv
  go_enter Try.func66, Try.ntmps66
  go_wp2_with fail
  refine (reads_any _ _).mono ?_
  rintro e w' ⟨rfl, rfl⟩
  rw [HR.out]
  go_wp2_with fail
  refine (reads_any _ _).mono ?_
  rintro e w' ⟨rfl, rfl⟩
  rw [HR.out]
  go_wp2_with fail
  refine (writes_any _ _).mono ?_
  rintro e w' ⟨rfl, rfl⟩
  rw [HW.out]
  go_wp2_with fail
  refine (reads_any _ _).mono ?_
  rintro e w' ⟨rfl, rfl⟩
  rcases hq : readsB at_ with _ | _
  · have HQ := Lib.hid hq
    clear hq
    go_wp2
    go_ret
    exact rr_class HV.out (((Below.refl _ _).alloc (Nat.le_refl _) _).alloc (by simp) _) (by rw [HQ.out]; rfl)
  · have HQ := Lib.hid hq
    clear hq
    rcases (by omega : 2 < at_ ∨ at_ ≤ 2) with h2 | h2
    all_goals
      go_wp2
      go_ret
      exact rr_class HV.out (((Below.refl _ _).alloc (Nat.le_refl _) _).alloc (by simp) _) (by rw [HQ.out, Bool.eq_iff_iff]; first | (simp; done) | (simp; omega) | (simp <;> omega))
end Go.Proofs.Ytclbmgnpgjhlhaa
