/- The law IecKinds: a kind's size and name, whether a number is a value of it, and what it is brought into it, are the document's. -/
import Derived.Test.YtclbmgnpgjhlhaaIecName
import Derived.Test.YtclbmgnpgjhlhaaIecAwake
import Derived.Test.YtclbmgnpgjhlhaaIecRef2
namespace Go.Proofs.Ytclbmgnpgjhlhaa
open Go.RowKit
theorem rowOf_cases (s : ByteArray) : (kindOf s = 0 ∧ rowOf s < 1) ∨ (1 ≤ kindOf s ∧ kindOf s ≤ 7 ∧ rowOf s = (kindOf s : Int)) := by
  unfold rowOf
  have h0 : isName 0 s = true → kindOf s = 0 := by
    unfold isName kindOf
    intro h
    have h := of_decide_eq_true h
    subst h
    decide
  have h7 : kindOf s ≤ 7 := by
    unfold kindOf
    repeat' split
    all_goals omega
  split
  · next h => exact .inl ⟨h0 h, by omega⟩
  · split
    · next h => exact .inl ⟨h, by omega⟩
    · next h => exact .inr ⟨by omega, h7, rfl⟩
set_option maxRecDepth 100000 in
set_option maxHeartbeats 1000000 in
theorem named_any (s : ByteArray) (w : World) : Calls Try.prog 31 #[.string s] w fun e w' => e = .returned (.tuple #[.int .i64 (kindOf s), .bool (decide (0 < kindOf s))]) ∧ Below w.heap.size w w' := by
  rcases rowOf_cases s with ⟨h0, hlt⟩ | ⟨h1, h7, he⟩
  · have H0 := Lib.hid h0
    clear h0
    go_enter Try.func31, Try.ntmps31
    go_wp2_with fail
    refine (kinds_any _).mono ?_
    rintro e w1 ⟨rfl, rfl⟩
    have hs := (ObjAt.new w #[.string s] 9).alloc (.cells kindRow 77)
    have hr := ObjAt.new (w.alloc (.cells #[.string s] 9)) kindRow 77
    have hb1 := ((Below.refl w.heap.size w).alloc (Nat.le_refl _) (.cells #[.string s] 9)).alloc (by simp) (.cells kindRow 77)
    rw [show (w.alloc (.cells #[.string s] 9)).heap.size = w.heap.size + 1 from by simp] at hr
    have H := Lib.hid (And.intro hr (And.intro hs hb1))
    clear hr hs hb1
    go_wp2_with fail
    refine (named_index (w.heap.size + 1) w.heap.size s _ H.out.1 H.out.2.1).mono ?_
    rintro e w2 ⟨rfl, hb⟩
    have HB := Lib.hid (bt H.out.2.2 hb)
    clear hb
    go_wp2
    go_ret2
    exact ⟨by rw [H0.out]; rfl, HB.out⟩
  · obtain ⟨k, hk⟩ : ∃ k : Nat, kindOf s = k := ⟨_, rfl⟩
    rw [hk] at he h1 h7
    have HK := Lib.hid (And.intro hk he)
    clear hk he
    go_enter Try.func31, Try.ntmps31
    go_wp2_with fail
    refine (kinds_any _).mono ?_
    rintro e w1 ⟨rfl, rfl⟩
    have hs := (ObjAt.new w #[.string s] 9).alloc (.cells kindRow 77)
    have hr := ObjAt.new (w.alloc (.cells #[.string s] 9)) kindRow 77
    have hb1 := ((Below.refl w.heap.size w).alloc (Nat.le_refl _) (.cells #[.string s] 9)).alloc (by simp) (.cells kindRow 77)
    rw [show (w.alloc (.cells #[.string s] 9)).heap.size = w.heap.size + 1 from by simp] at hr
    have H := Lib.hid (And.intro hr (And.intro hs hb1))
    clear hr hs hb1
    go_wp2_with fail
    refine (named_index (w.heap.size + 1) w.heap.size s _ H.out.1 H.out.2.1).mono ?_
    rintro e w2 ⟨rfl, hb⟩
    rw [HK.out.2]
    have HB := Lib.hid (bt H.out.2.2 hb)
    clear hb
    go_wp2
    go_ret2
    exact ⟨by rw [HK.out.1]; have : decide (0 < k) = true := decide_eq_true (by omega); rw [this]; rfl, HB.out⟩
/-- The last kind below j of that name; 0: none. -/
def kindTo (s : ByteArray) : Nat → Nat
  | 0 => 0
  | 1 => 0
  | j + 1 => if isName j s = true then j else kindTo s j
theorem kindTo_le (s : ByteArray) (j : Nat) : kindTo s j ≤ j := by
  fun_induction kindTo s j <;> omega
theorem kindTo_all (s : ByteArray) : kindTo s 8 = kindOf s := by
  simp only [kindTo, kindOf, isName, decide_eq_true_eq]
  by_cases h1 : nameK 1 = s
  · subst h1; decide
  by_cases h2 : nameK 2 = s
  · subst h2; decide
  by_cases h3 : nameK 3 = s
  · subst h3; decide
  by_cases h4 : nameK 4 = s
  · subst h4; decide
  by_cases h5 : nameK 5 = s
  · subst h5; decide
  by_cases h6 : nameK 6 = s
  · subst h6; decide
  by_cases h7 : nameK 7 = s
  · subst h7; decide
  simp [h1, h2, h3, h4, h5, h6, h7]
theorem kN_same (j : Nat) (h : 1 ≤ j ∧ j ≤ 7) : kN (j : Int) = j := by unfold kN; rw [if_pos (by omega)]; simp
set_option maxRecDepth 100000 in
set_option maxHeartbeats 4000000 in
theorem iecKinds_walk (k : Int) (_ : (Lit.int .i64 k).wf = true) (v : Int) (wv : (Lit.int .i64 v).wf = true) (s : ByteArray) (hs : s.size ≤ 140737488351232) (w : World) :
    Calls Try.prog 8 #[.int .i64 k, .int .i64 v, .string s] w fun e w' => e = .returned (.bool true) ∧ Below w.heap.size w w' := by
  by_cases hl : s.size ≤ 40
  · have hl1 : ¬ (40 : Int) < (s.size : Int) := by omega
    clear wv hs hl
    go_enter Try.func8, Try.ntmps8
    go_wp2_with fail
    refine (iawake_any _).mono ?_
    rintro e w1 ⟨rfl, hb1⟩
    have HB := Lib.hid hb1
    clear hb1
    go_wp2_with fail
    go_loopw [7, 8] (fun x i wr => ∃ j : Nat, 1 ≤ j ∧ j ≤ 8 ∧ i = .int .i64 (j : Int) ∧ x = .int .i64 (kindTo s j : Int) ∧ Below w.heap.size w wr) (fun _ i _ => 8 - (intOf i).toNat)
    case atStart => exact ⟨1, by omega, by omega, rfl, rfl, HB.out⟩
    case round =>
      obtain ⟨j, h1, h8, rfl, rfl, hb⟩ := hrel
      have HB1 := Lib.hid hb
      clear hb
      have hle := kindTo_le s j
      by_cases hj : j < 8
      · have hkn := kN_same j (by omega)
        have hne := isName_eq (k := j) (s := s)
        have hst : kindTo s (j + 1) = if isName j s = true then j else kindTo s j := by
          obtain ⟨i, rfl⟩ : ∃ i, j = i + 1 := ⟨j - 1, by omega⟩
          rfl
        have HN := Lib.hid (And.intro hkn (And.intro hne hst))
        clear hkn hne hst
        go_wp2_with fail
        refine (rname_any (j : Int) _).mono ?_
        rintro e w2 ⟨rfl, hb2⟩
        rw [HN.out.1]
        have HB2 := Lib.hid (bt HB1.out hb2)
        clear hb2
        rcases hq : isName j s with _ | _
        · have hne : ((nameK j).toList == s.toList) = false := HN.out.2.1.trans hq
          have hst : kindTo s (j + 1) = kindTo s j := by rw [HN.out.2.2, hq]; rfl
          have HS := Lib.hid hst
          clear hq hst
          go_wp2
          go_roundw
          case rel => exact ⟨j + 1, by omega, by omega, by go_num, by rw [HS.out], HB2.out⟩
          case measure => simp [intOf]; omega
        · have hne : ((nameK j).toList == s.toList) = true := HN.out.2.1.trans hq
          have hst : kindTo s (j + 1) = j := by rw [HN.out.2.2, hq]; rfl
          have HS := Lib.hid hst
          clear hq hst
          go_wp2
          go_roundw
          case rel => exact ⟨j + 1, by omega, by omega, by go_num, by rw [HS.out], HB2.out⟩
          case measure => simp [intOf]; omega
      · obtain rfl : j = 8 := by omega
        rw [kindTo_all]
        have hk7 : kindOf s ≤ 8 := by rw [← kindTo_all]; exact hle
        clear hle
        go_wp2_with fail
        refine (named_any s _).mono ?_
        rintro e w2 ⟨rfl, hb⟩
        have HB2 := Lib.hid (bt HB1.out hb)
        clear hb
        go_wp2_with fail
        refine (size_any k _).mono ?_
        rintro e w3 ⟨rfl, hb⟩
        have HB3 := Lib.hid (bt HB2.out hb)
        clear hb
        go_wp2_with fail
        refine (rsize_any k _).mono ?_
        rintro e w4 ⟨rfl, hb⟩
        have HB4 := Lib.hid (bt HB3.out hb)
        clear hb
        go_wp2_with fail
        refine (name_any k _).mono ?_
        rintro e w5 ⟨rfl, hb⟩
        have HB5 := Lib.hid (bt HB4.out hb)
        clear hb
        go_wp2_with fail
        refine (rname_any k _).mono ?_
        rintro e w6 ⟨rfl, hb⟩
        have HB6 := Lib.hid (bt HB5.out hb)
        clear hb
        go_wp2_with fail
        refine (is_any k v _).mono ?_
        rintro e w7 ⟨rfl, hb⟩
        have HB7 := Lib.hid (bt HB6.out hb)
        clear hb
        go_wp2_with fail
        refine (ris_any k v _).mono ?_
        rintro e w8 ⟨rfl, hb⟩
        have HB8 := Lib.hid (bt HB7.out hb)
        clear hb
        go_wp2_with fail
        refine (wrap_any k v _).mono ?_
        rintro e w9 ⟨rfl, hb⟩
        have HB9 := Lib.hid (bt HB8.out hb)
        clear hb
        go_wp2_with fail
        refine (rwrap_any k v _).mono ?_
        rintro e w10 ⟨rfl, hb⟩
        have HB10 := Lib.hid (bt HB9.out hb)
        clear hb
        go_wp2
        go_ret
        exact ⟨ret_bool (by simp), HB10.out⟩
  · have hl1 : (40 : Int) < (s.size : Int) := by omega
    clear wv
    go_enter Try.func8, Try.ntmps8
    go_wp2_with fail
    refine (iawake_any _).mono ?_
    rintro e w1 ⟨rfl, hb1⟩
    go_wp2
    go_ret
    exact ⟨rfl, hb1⟩
end Go.Proofs.Ytclbmgnpgjhlhaa
