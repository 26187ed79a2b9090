/- Names of kinds: of the program and of the document; the kind of a name (made by wip/mk_iecname.py). -/
import Derived.Test.YtclbmgnpgjhlhaaIecRef
import Derived.Test.YtclbmgnpgjhlhaaObj
import Derived.LoopN
namespace Go.Proofs.Ytclbmgnpgjhlhaa
open Go.RowKit
def nameK : Nat → ByteArray
  | 1 => ⟨#[66, 79, 79, 76]⟩
  | 2 => ⟨#[83, 73, 78, 84]⟩
  | 3 => ⟨#[73, 78, 84]⟩
  | 4 => ⟨#[68, 73, 78, 84]⟩
  | 5 => ⟨#[85, 73, 78, 84]⟩
  | 6 => ⟨#[87, 79, 82, 68]⟩
  | 7 => ⟨#[68, 87, 79, 82, 68]⟩
  | _ => ⟨#[]⟩
set_option maxRecDepth 100000 in
set_option maxHeartbeats 1000000 in
theorem name_1 (w : World) : Calls Try.prog 33 #[.int .i64 1] w fun e w' => e = .returned (.string (nameK 1)) ∧ Below w.heap.size w w' := by
  go_enter Try.func33, Try.ntmps33
  go_wp2_with fail
  refine (of_1 _).mono ?_
  rintro e w1 ⟨rfl, hb1⟩
  go_wp2
  go_ret
  exact ⟨rfl, hb1.alloc hb1.size _⟩
set_option maxRecDepth 100000 in
set_option maxHeartbeats 1000000 in
theorem name_2 (w : World) : Calls Try.prog 33 #[.int .i64 2] w fun e w' => e = .returned (.string (nameK 2)) ∧ Below w.heap.size w w' := by
  go_enter Try.func33, Try.ntmps33
  go_wp2_with fail
  refine (of_2 _).mono ?_
  rintro e w1 ⟨rfl, hb1⟩
  go_wp2
  go_ret
  exact ⟨rfl, hb1.alloc hb1.size _⟩
set_option maxRecDepth 100000 in
set_option maxHeartbeats 1000000 in
theorem name_3 (w : World) : Calls Try.prog 33 #[.int .i64 3] w fun e w' => e = .returned (.string (nameK 3)) ∧ Below w.heap.size w w' := by
  go_enter Try.func33, Try.ntmps33
  go_wp2_with fail
  refine (of_3 _).mono ?_
  rintro e w1 ⟨rfl, hb1⟩
  go_wp2
  go_ret
  exact ⟨rfl, hb1.alloc hb1.size _⟩
set_option maxRecDepth 100000 in
set_option maxHeartbeats 1000000 in
theorem name_4 (w : World) : Calls Try.prog 33 #[.int .i64 4] w fun e w' => e = .returned (.string (nameK 4)) ∧ Below w.heap.size w w' := by
  go_enter Try.func33, Try.ntmps33
  go_wp2_with fail
  refine (of_4 _).mono ?_
  rintro e w1 ⟨rfl, hb1⟩
  go_wp2
  go_ret
  exact ⟨rfl, hb1.alloc hb1.size _⟩
set_option maxRecDepth 100000 in
set_option maxHeartbeats 1000000 in
theorem name_5 (w : World) : Calls Try.prog 33 #[.int .i64 5] w fun e w' => e = .returned (.string (nameK 5)) ∧ Below w.heap.size w w' := by
  go_enter Try.func33, Try.ntmps33
  go_wp2_with fail
  refine (of_5 _).mono ?_
  rintro e w1 ⟨rfl, hb1⟩
  go_wp2
  go_ret
  exact ⟨rfl, hb1.alloc hb1.size _⟩
set_option maxRecDepth 100000 in
set_option maxHeartbeats 1000000 in
theorem name_6 (w : World) : Calls Try.prog 33 #[.int .i64 6] w fun e w' => e = .returned (.string (nameK 6)) ∧ Below w.heap.size w w' := by
  go_enter Try.func33, Try.ntmps33
  go_wp2_with fail
  refine (of_6 _).mono ?_
  rintro e w1 ⟨rfl, hb1⟩
  go_wp2
  go_ret
  exact ⟨rfl, hb1.alloc hb1.size _⟩
set_option maxRecDepth 100000 in
set_option maxHeartbeats 1000000 in
theorem name_7 (w : World) : Calls Try.prog 33 #[.int .i64 7] w fun e w' => e = .returned (.string (nameK 7)) ∧ Below w.heap.size w w' := by
  go_enter Try.func33, Try.ntmps33
  go_wp2_with fail
  refine (of_7 _).mono ?_
  rintro e w1 ⟨rfl, hb1⟩
  go_wp2
  go_ret
  exact ⟨rfl, hb1.alloc hb1.size _⟩
set_option maxRecDepth 100000 in
set_option maxHeartbeats 1000000 in
theorem name_out (k : Int) (hk : k < 1 ∨ 7 < k) (w : World) : Calls Try.prog 33 #[.int .i64 k] w fun e w' => e = .returned (.string (nameK 0)) ∧ Below w.heap.size w w' := by
  go_enter Try.func33, Try.ntmps33
  go_wp2_with fail
  refine (of_out k hk _).mono ?_
  rintro e w1 ⟨rfl, hb1⟩
  go_wp2
  go_ret
  exact ⟨rfl, hb1.alloc hb1.size _⟩
theorem name_any (k : Int) (w : World) : Calls Try.prog 33 #[.int .i64 k] w fun e w' => e = .returned (.string (nameK (kN k))) ∧ Below w.heap.size w w' := by
  rcases kN_cases k with rfl | rfl | rfl | rfl | rfl | rfl | rfl | ⟨hk, h0⟩
  · exact name_1 w
  · exact name_2 w
  · exact name_3 w
  · exact name_4 w
  · exact name_5 w
  · exact name_6 w
  · exact name_7 w
  · rw [h0]; exact name_out k hk w
set_option maxRecDepth 100000 in
set_option maxHeartbeats 1000000 in
theorem rname_1 (w : World) : Calls Try.prog 30 #[.int .i64 1] w fun e w' => e = .returned (.string (nameK 1)) ∧ Below w.heap.size w w' := by
  go_enter Try.func30, Try.ntmps30
  go_wp2
  go_ret
  exact ⟨rfl, (Below.refl _ _).alloc (Nat.le_refl _) _⟩
set_option maxRecDepth 100000 in
set_option maxHeartbeats 1000000 in
theorem rname_2 (w : World) : Calls Try.prog 30 #[.int .i64 2] w fun e w' => e = .returned (.string (nameK 2)) ∧ Below w.heap.size w w' := by
  go_enter Try.func30, Try.ntmps30
  go_wp2
  go_ret
  exact ⟨rfl, (Below.refl _ _).alloc (Nat.le_refl _) _⟩
set_option maxRecDepth 100000 in
set_option maxHeartbeats 1000000 in
theorem rname_3 (w : World) : Calls Try.prog 30 #[.int .i64 3] w fun e w' => e = .returned (.string (nameK 3)) ∧ Below w.heap.size w w' := by
  go_enter Try.func30, Try.ntmps30
  go_wp2
  go_ret
  exact ⟨rfl, (Below.refl _ _).alloc (Nat.le_refl _) _⟩
set_option maxRecDepth 100000 in
set_option maxHeartbeats 1000000 in
theorem rname_4 (w : World) : Calls Try.prog 30 #[.int .i64 4] w fun e w' => e = .returned (.string (nameK 4)) ∧ Below w.heap.size w w' := by
  go_enter Try.func30, Try.ntmps30
  go_wp2
  go_ret
  exact ⟨rfl, (Below.refl _ _).alloc (Nat.le_refl _) _⟩
set_option maxRecDepth 100000 in
set_option maxHeartbeats 1000000 in
theorem rname_5 (w : World) : Calls Try.prog 30 #[.int .i64 5] w fun e w' => e = .returned (.string (nameK 5)) ∧ Below w.heap.size w w' := by
  go_enter Try.func30, Try.ntmps30
  go_wp2
  go_ret
  exact ⟨rfl, (Below.refl _ _).alloc (Nat.le_refl _) _⟩
set_option maxRecDepth 100000 in
set_option maxHeartbeats 1000000 in
theorem rname_6 (w : World) : Calls Try.prog 30 #[.int .i64 6] w fun e w' => e = .returned (.string (nameK 6)) ∧ Below w.heap.size w w' := by
  go_enter Try.func30, Try.ntmps30
  go_wp2
  go_ret
  exact ⟨rfl, (Below.refl _ _).alloc (Nat.le_refl _) _⟩
set_option maxRecDepth 100000 in
set_option maxHeartbeats 1000000 in
theorem rname_7 (w : World) : Calls Try.prog 30 #[.int .i64 7] w fun e w' => e = .returned (.string (nameK 7)) ∧ Below w.heap.size w w' := by
  go_enter Try.func30, Try.ntmps30
  go_wp2
  go_ret
  exact ⟨rfl, (Below.refl _ _).alloc (Nat.le_refl _) _⟩
set_option maxRecDepth 100000 in
set_option maxHeartbeats 1000000 in
theorem rname_out (k : Int) (hk : k < 1 ∨ 7 < k) (w : World) : Calls Try.prog 30 #[.int .i64 k] w fun e w' => e = .returned (.string (nameK 0)) ∧ Below w.heap.size w w' := by
  by_cases h0 : k = 0
  · subst h0
    go_enter Try.func30, Try.ntmps30
    go_wp2
    go_ret
    exact ⟨rfl, (Below.refl _ _).alloc (Nat.le_refl _) _⟩
  · rcases (by omega : k < 0 ∨ 7 < k) with hk | hk
    all_goals
      go_enter Try.func30, Try.ntmps30
      go_wp2
      go_ret
      exact ⟨rfl, (Below.refl _ _).alloc (Nat.le_refl _) _⟩
theorem rname_any (k : Int) (w : World) : Calls Try.prog 30 #[.int .i64 k] w fun e w' => e = .returned (.string (nameK (kN k))) ∧ Below w.heap.size w w' := by
  rcases kN_cases k with rfl | rfl | rfl | rfl | rfl | rfl | rfl | ⟨hk, h0⟩
  · exact rname_1 w
  · exact rname_2 w
  · exact rname_3 w
  · exact rname_4 w
  · exact rname_5 w
  · exact rname_6 w
  · exact rname_7 w
  · rw [h0]; exact rname_out k hk w
/-- The kind of a name; 0: none. -/
def kindOf (s : ByteArray) : Nat := if nameK 1 = s then 1 else if nameK 2 = s then 2 else if nameK 3 = s then 3 else if nameK 4 = s then 4 else if nameK 5 = s then 5 else if nameK 6 = s then 6 else if nameK 7 = s then 7 else 0
/-- Is a kind's name that text? -/
def isName (k : Nat) (s : ByteArray) : Bool := decide (nameK k = s)
theorem isName_eq {k : Nat} {s : ByteArray} : ((nameK k).toList == s.toList) = isName k s := by
  unfold isName
  by_cases h : nameK k = s
  · rw [decide_eq_true h]; exact bytes_same h
  · rw [decide_eq_false h]; exact bytes_ne h
set_option maxRecDepth 100000 in
set_option maxHeartbeats 1000000 in
theorem namedc_any (g : Nat) (k : Nat) (s : ByteArray) (a b c : Value) (w : World) (hb : ∃ i x y, a = .int .i64 i ∧ b = .bool x ∧ c = .bool y) (hc : w.cell? ⟨g, 0, none⟩ = some (.string s)) (hg : g < w.heap.size) :
    Calls Try.prog 55 #[.agg #[.string (nameK k), a, b, c], .pointer (some ⟨g, 0, none⟩)] w fun e w' => e = .returned (.bool (isName k s)) ∧ Below w.heap.size w w' := by
  obtain ⟨i, x, y, rfl, rfl, rfl⟩ := hb
  have hi := isName_eq (k := k) (s := s)
  generalize nameK k = t at *
  generalize isName k s = q at *
  have HI := Lib.hid hi
  clear hi
  have hc2 : ∀ o, (w.alloc o).cell? ⟨g, 0, none⟩ = some (.string s) := fun o => (World.cell?_alloc_lt w o ⟨g, 0, none⟩ hg).trans hc
  have hc3 := hc2 (.cells #[.string t, .int .i64 i, .bool x, .bool y] 77)
  clear hc2
  go_enter Try.func55, Try.ntmps55
  go_wp2
  go_ret
  exact ⟨ret_bool (by simpa using HI.out), (Below.refl _ _).alloc (Nat.le_refl _) _⟩
def kindRow : Array Value := #[.string ⟨#[]⟩, .int .i64 0, .bool false, .bool false, .string ⟨#[66, 79, 79, 76]⟩, .int .i64 1, .bool false, .bool true, .string ⟨#[83, 73, 78, 84]⟩, .int .i64 1, .bool true, .bool false, .string ⟨#[73, 78, 84]⟩, .int .i64 2, .bool true, .bool false, .string ⟨#[68, 73, 78, 84]⟩, .int .i64 4, .bool true, .bool false, .string ⟨#[85, 73, 78, 84]⟩, .int .i64 2, .bool false, .bool false, .string ⟨#[87, 79, 82, 68]⟩, .int .i64 2, .bool false, .bool true, .string ⟨#[68, 87, 79, 82, 68]⟩, .int .i64 4, .bool false, .bool true]
/-- The first kind of that name, from the beginning of the row on; below 0: none. -/
def rowOf (s : ByteArray) : Int := if isName 0 s = true then 0 else if kindOf s = 0 then -1 else kindOf s
set_option maxRecDepth 100000 in
set_option maxHeartbeats 1000000 in
theorem named_index (b g : Nat) (s : ByteArray) (w : World) (hr : ObjAt w b kindRow 77) (hs : ObjAt w g #[.string s] 9) :
    Calls Try.prog 53 #[.slice (some ⟨b, 0, none⟩) 8 8, .func (.func 55) #[] #[.pointer (some ⟨g, 0, none⟩)]] w fun e w' => e = .returned (.int .i64 (rowOf s)) ∧ Below w.heap.size w w' := by
  have HR := Lib.hid (And.intro hr (And.intro hs (Below.refl w.heap.size w)))
  clear hr hs
  have hv : rowOf s = if isName 0 s = true then 0 else if isName 1 s = true then 1 else if isName 2 s = true then 2 else if isName 3 s = true then 3 else if isName 4 s = true then 4 else if isName 5 s = true then 5 else if isName 6 s = true then 6 else if isName 7 s = true then 7 else -1 := by
    unfold rowOf kindOf
    simp only [isName, decide_eq_true_eq]
    repeat' split
    all_goals first | rfl | (exfalso; simp_all; done) | omega
  have HV := Lib.hid hv
  clear hv
  go_enter Try.func53, Try.ntmps53
  have q0 : w.cell? ⟨b, 0, none⟩ = some (.string (nameK 0)) := HR.out.1.cell 0
  have q1 : w.cell? ⟨b, 1, none⟩ = some (.int .i64 0) := HR.out.1.cell 1
  have q2 : w.cell? ⟨b, 2, none⟩ = some (.bool false) := HR.out.1.cell 2
  have q3 : w.cell? ⟨b, 3, none⟩ = some (.bool false) := HR.out.1.cell 3
  go_wp2_with fail
  refine wp_loop_rounds 9 ?_
  rw [rounds_succ]
  go_wp2_with fail
  refine (namedc_any g 0 s _ _ _ _ ⟨_, _, _, rfl, rfl, rfl⟩ (HR.out.2.1.cell 0) HR.out.2.1.lt).mono ?_
  rintro e w1 ⟨rfl, hb⟩
  have HR0 := Lib.hid (And.intro (below_obj hb HR.out.1) (And.intro (below_obj hb HR.out.2.1) (bt HR.out.2.2 hb)))
  clear hb q0 q1 q2 q3
  rcases hd0 : isName 0 s with _ | _
  rotate_left
  · have HD := Lib.hid hd0
    clear hd0
    go_wp2
    go_ret
    exact ⟨ret_int (by rw [HV.out]; simp [HD.out]), HR0.out.2.2⟩
  have HD0 := Lib.hid hd0
  clear hd0
  have q0 : w1.cell? ⟨b, 4, none⟩ = some (.string (nameK 1)) := HR0.out.1.cell 4
  have q1 : w1.cell? ⟨b, 5, none⟩ = some (.int .i64 1) := HR0.out.1.cell 5
  have q2 : w1.cell? ⟨b, 6, none⟩ = some (.bool false) := HR0.out.1.cell 6
  have q3 : w1.cell? ⟨b, 7, none⟩ = some (.bool true) := HR0.out.1.cell 7
  go_wp2_with fail
  rw [rounds_succ]
  go_wp2_with fail
  refine (namedc_any g 1 s _ _ _ _ ⟨_, _, _, rfl, rfl, rfl⟩ (HR0.out.2.1.cell 0) HR0.out.2.1.lt).mono ?_
  rintro e w2 ⟨rfl, hb⟩
  have HR1 := Lib.hid (And.intro (below_obj hb HR0.out.1) (And.intro (below_obj hb HR0.out.2.1) (bt HR0.out.2.2 hb)))
  clear hb q0 q1 q2 q3
  rcases hd1 : isName 1 s with _ | _
  rotate_left
  · have HD := Lib.hid hd1
    clear hd1
    go_wp2
    go_ret
    exact ⟨ret_int (by rw [HV.out]; simp [HD0.out, HD.out]), HR1.out.2.2⟩
  have HD1 := Lib.hid hd1
  clear hd1
  have q0 : w2.cell? ⟨b, 8, none⟩ = some (.string (nameK 2)) := HR1.out.1.cell 8
  have q1 : w2.cell? ⟨b, 9, none⟩ = some (.int .i64 1) := HR1.out.1.cell 9
  have q2 : w2.cell? ⟨b, 10, none⟩ = some (.bool true) := HR1.out.1.cell 10
  have q3 : w2.cell? ⟨b, 11, none⟩ = some (.bool false) := HR1.out.1.cell 11
  go_wp2_with fail
  rw [rounds_succ]
  go_wp2_with fail
  refine (namedc_any g 2 s _ _ _ _ ⟨_, _, _, rfl, rfl, rfl⟩ (HR1.out.2.1.cell 0) HR1.out.2.1.lt).mono ?_
  rintro e w3 ⟨rfl, hb⟩
  have HR2 := Lib.hid (And.intro (below_obj hb HR1.out.1) (And.intro (below_obj hb HR1.out.2.1) (bt HR1.out.2.2 hb)))
  clear hb q0 q1 q2 q3
  rcases hd2 : isName 2 s with _ | _
  rotate_left
  · have HD := Lib.hid hd2
    clear hd2
    go_wp2
    go_ret
    exact ⟨ret_int (by rw [HV.out]; simp [HD0.out, HD1.out, HD.out]), HR2.out.2.2⟩
  have HD2 := Lib.hid hd2
  clear hd2
  have q0 : w3.cell? ⟨b, 12, none⟩ = some (.string (nameK 3)) := HR2.out.1.cell 12
  have q1 : w3.cell? ⟨b, 13, none⟩ = some (.int .i64 2) := HR2.out.1.cell 13
  have q2 : w3.cell? ⟨b, 14, none⟩ = some (.bool true) := HR2.out.1.cell 14
  have q3 : w3.cell? ⟨b, 15, none⟩ = some (.bool false) := HR2.out.1.cell 15
  go_wp2_with fail
  rw [rounds_succ]
  go_wp2_with fail
  refine (namedc_any g 3 s _ _ _ _ ⟨_, _, _, rfl, rfl, rfl⟩ (HR2.out.2.1.cell 0) HR2.out.2.1.lt).mono ?_
  rintro e w4 ⟨rfl, hb⟩
  have HR3 := Lib.hid (And.intro (below_obj hb HR2.out.1) (And.intro (below_obj hb HR2.out.2.1) (bt HR2.out.2.2 hb)))
  clear hb q0 q1 q2 q3
  rcases hd3 : isName 3 s with _ | _
  rotate_left
  · have HD := Lib.hid hd3
    clear hd3
    go_wp2
    go_ret
    exact ⟨ret_int (by rw [HV.out]; simp [HD0.out, HD1.out, HD2.out, HD.out]), HR3.out.2.2⟩
  have HD3 := Lib.hid hd3
  clear hd3
  have q0 : w4.cell? ⟨b, 16, none⟩ = some (.string (nameK 4)) := HR3.out.1.cell 16
  have q1 : w4.cell? ⟨b, 17, none⟩ = some (.int .i64 4) := HR3.out.1.cell 17
  have q2 : w4.cell? ⟨b, 18, none⟩ = some (.bool true) := HR3.out.1.cell 18
  have q3 : w4.cell? ⟨b, 19, none⟩ = some (.bool false) := HR3.out.1.cell 19
  go_wp2_with fail
  rw [rounds_succ]
  go_wp2_with fail
  refine (namedc_any g 4 s _ _ _ _ ⟨_, _, _, rfl, rfl, rfl⟩ (HR3.out.2.1.cell 0) HR3.out.2.1.lt).mono ?_
  rintro e w5 ⟨rfl, hb⟩
  have HR4 := Lib.hid (And.intro (below_obj hb HR3.out.1) (And.intro (below_obj hb HR3.out.2.1) (bt HR3.out.2.2 hb)))
  clear hb q0 q1 q2 q3
  rcases hd4 : isName 4 s with _ | _
  rotate_left
  · have HD := Lib.hid hd4
    clear hd4
    go_wp2
    go_ret
    exact ⟨ret_int (by rw [HV.out]; simp [HD0.out, HD1.out, HD2.out, HD3.out, HD.out]), HR4.out.2.2⟩
  have HD4 := Lib.hid hd4
  clear hd4
  have q0 : w5.cell? ⟨b, 20, none⟩ = some (.string (nameK 5)) := HR4.out.1.cell 20
  have q1 : w5.cell? ⟨b, 21, none⟩ = some (.int .i64 2) := HR4.out.1.cell 21
  have q2 : w5.cell? ⟨b, 22, none⟩ = some (.bool false) := HR4.out.1.cell 22
  have q3 : w5.cell? ⟨b, 23, none⟩ = some (.bool false) := HR4.out.1.cell 23
  go_wp2_with fail
  rw [rounds_succ]
  go_wp2_with fail
  refine (namedc_any g 5 s _ _ _ _ ⟨_, _, _, rfl, rfl, rfl⟩ (HR4.out.2.1.cell 0) HR4.out.2.1.lt).mono ?_
  rintro e w6 ⟨rfl, hb⟩
  have HR5 := Lib.hid (And.intro (below_obj hb HR4.out.1) (And.intro (below_obj hb HR4.out.2.1) (bt HR4.out.2.2 hb)))
  clear hb q0 q1 q2 q3
  rcases hd5 : isName 5 s with _ | _
  rotate_left
  · have HD := Lib.hid hd5
    clear hd5
    go_wp2
    go_ret
    exact ⟨ret_int (by rw [HV.out]; simp [HD0.out, HD1.out, HD2.out, HD3.out, HD4.out, HD.out]), HR5.out.2.2⟩
  have HD5 := Lib.hid hd5
  clear hd5
  have q0 : w6.cell? ⟨b, 24, none⟩ = some (.string (nameK 6)) := HR5.out.1.cell 24
  have q1 : w6.cell? ⟨b, 25, none⟩ = some (.int .i64 2) := HR5.out.1.cell 25
  have q2 : w6.cell? ⟨b, 26, none⟩ = some (.bool false) := HR5.out.1.cell 26
  have q3 : w6.cell? ⟨b, 27, none⟩ = some (.bool true) := HR5.out.1.cell 27
  go_wp2_with fail
  rw [rounds_succ]
  go_wp2_with fail
  refine (namedc_any g 6 s _ _ _ _ ⟨_, _, _, rfl, rfl, rfl⟩ (HR5.out.2.1.cell 0) HR5.out.2.1.lt).mono ?_
  rintro e w7 ⟨rfl, hb⟩
  have HR6 := Lib.hid (And.intro (below_obj hb HR5.out.1) (And.intro (below_obj hb HR5.out.2.1) (bt HR5.out.2.2 hb)))
  clear hb q0 q1 q2 q3
  rcases hd6 : isName 6 s with _ | _
  rotate_left
  · have HD := Lib.hid hd6
    clear hd6
    go_wp2
    go_ret
    exact ⟨ret_int (by rw [HV.out]; simp [HD0.out, HD1.out, HD2.out, HD3.out, HD4.out, HD5.out, HD.out]), HR6.out.2.2⟩
  have HD6 := Lib.hid hd6
  clear hd6
  have q0 : w7.cell? ⟨b, 28, none⟩ = some (.string (nameK 7)) := HR6.out.1.cell 28
  have q1 : w7.cell? ⟨b, 29, none⟩ = some (.int .i64 4) := HR6.out.1.cell 29
  have q2 : w7.cell? ⟨b, 30, none⟩ = some (.bool false) := HR6.out.1.cell 30
  have q3 : w7.cell? ⟨b, 31, none⟩ = some (.bool true) := HR6.out.1.cell 31
  go_wp2_with fail
  rw [rounds_succ]
  go_wp2_with fail
  refine (namedc_any g 7 s _ _ _ _ ⟨_, _, _, rfl, rfl, rfl⟩ (HR6.out.2.1.cell 0) HR6.out.2.1.lt).mono ?_
  rintro e w8 ⟨rfl, hb⟩
  have HR7 := Lib.hid (And.intro (below_obj hb HR6.out.1) (And.intro (below_obj hb HR6.out.2.1) (bt HR6.out.2.2 hb)))
  clear hb q0 q1 q2 q3
  rcases hd7 : isName 7 s with _ | _
  rotate_left
  · have HD := Lib.hid hd7
    clear hd7
    go_wp2
    go_ret
    exact ⟨ret_int (by rw [HV.out]; simp [HD0.out, HD1.out, HD2.out, HD3.out, HD4.out, HD5.out, HD6.out, HD.out]), HR7.out.2.2⟩
  have HD7 := Lib.hid hd7
  clear hd7
  go_wp2_with fail
  rw [rounds_succ]
  go_wp2
  go_ret
  exact ⟨ret_int (by rw [HV.out]; simp [HD0.out, HD1.out, HD2.out, HD3.out, HD4.out, HD5.out, HD6.out, HD7.out]), HR7.out.2.2⟩
end Go.Proofs.Ytclbmgnpgjhlhaa
