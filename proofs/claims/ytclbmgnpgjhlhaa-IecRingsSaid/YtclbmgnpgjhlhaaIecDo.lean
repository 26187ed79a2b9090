/- The program's Do (made by wip/mk_iecdo.py). -/
import Derived.Test.YtclbmgnpgjhlhaaIecRaw
namespace Go.Proofs.Ytclbmgnpgjhlhaa
open Go.RowKit
/-- The error. -/
def doE (op : Int) (k : Nat) (a b : Int) : Int := if op = 13 ∨ mayK op k = false then 6 else if isK k a = false ∨ isK k b = false then 1 else 0
/-- The value, where there is no error. -/
def doR (op : Int) (k : Nat) (a b : Int) : Int :=
  if op = 14 then wrapK k (a + b) else if op = 15 then wrapK k (a - b) else if op = 16 then wrapK k (a * b)
  else if op = 17 then wrapK k (quoV a b) else if op = 18 then wrapK k (remV a b)
  else if op = 19 then yesV (a > b) else if op = 20 then yesV (a ≥ b) else if op = 21 then yesV (a = b) else if op = 22 then yesV (a ≠ b) else if op = 23 then yesV (a ≤ b) else if op = 24 then yesV (a < b)
  else if 10 ≤ op then ((opN (op - 3) a.toNat (notK k b).toNat : Nat) : Int) else ((opN op a.toNat b.toNat : Nat) : Int)
def doV (op : Int) (k : Nat) (a b : Int) : Int := if doE op k a b = 0 then doR op k a b else 0
theorem isK_in {k : Nat} {v : Int} (h : isK k v = true) : In32 v := by
  rw [isK_range] at h
  simp only [decide_eq_true_eq] at h
  obtain ⟨h0, h7, h1, h2⟩ := h
  unfold In32
  rcases (by omega : k = 1 ∨ k = 2 ∨ k = 3 ∨ k = 4 ∨ k = 5 ∨ k = 6 ∨ k = 7) with rfl | rfl | rfl | rfl | rfl | rfl | rfl
  all_goals
    simp only [leastK, manyK] at h1 h2
    omega
/-- A kind of bits: so many. -/
def widthK : Nat → Nat | 1 => 1 | 6 => 16 | _ => 32
theorem bitsK_cases {k : Nat} (hb : bitsK k = true) : k = 1 ∨ k = 6 ∨ k = 7 := by
  unfold bitsK at hb
  split at hb <;> simp_all
theorem isK_bits {k : Nat} {v : Int} (hb : bitsK k = true) (h : isK k v = true) : ∃ x : Nat, v = (x : Int) ∧ x < 2 ^ widthK k ∧ manyK k = ((2 ^ widthK k : Nat) : Int) := by
  rw [isK_range] at h
  simp only [decide_eq_true_eq] at h
  obtain ⟨h0, h7, h1, h2⟩ := h
  rcases bitsK_cases hb with rfl | rfl | rfl
  all_goals
    simp only [leastK, manyK] at h1 h2
    exact ⟨v.toNat, by omega, by simp only [widthK]; omega, by decide⟩
theorem wrapK_bits {k x : Nat} (hb : bitsK k = true) (h : x < 2 ^ widthK k) : wrapK k (x : Int) = (x : Int) := by
  rcases bitsK_cases hb with rfl | rfl | rfl
  · simp only [widthK] at h; simp only [wrapK]; split <;> omega
  · simp only [widthK] at h; simp only [wrapK]; omega
  · simp only [widthK] at h; simp only [wrapK]; omega
theorem width_le (k : Nat) : widthK k ≤ 32 := by unfold widthK; split <;> decide
theorem width_32 {k x : Nat} (h : x < 2 ^ widthK k) : x < 2 ^ 32 := Nat.lt_of_lt_of_le h (Nat.pow_le_pow_right (by decide) (width_le k))
theorem opN_width (op : Int) {x y n : Nat} (hx : x < 2 ^ n) (hy : y < 2 ^ n) : opN op x y < 2 ^ n := by
  unfold opN
  split
  · exact Nat.or_lt_two_pow hx hy
  split
  · exact Nat.xor_lt_two_pow hx hy
  · exact Nat.and_lt_two_pow _ hy
/-- Both turned. -/
theorem notK_nat {k x : Nat} (hb : bitsK k = true) (h : x < 2 ^ widthK k) (hi : isK k (x : Int) = true) : ∃ y : Nat, notK k (x : Int) = (y : Int) ∧ y < 2 ^ widthK k := by
  obtain ⟨x', hx', h1, h2⟩ := isK_bits hb hi
  refine ⟨2 ^ widthK k - 1 - x, ?_, by omega⟩
  rw [notK, if_pos ⟨hb, hi⟩, h2]
  omega
/-- A kind of arithmetic: products fit. -/
theorem prod_in {k : Nat} {a b : Int} (hb : bitsK k = false) (ha : isK k a = true) (hbb : isK k b = true) : -9223372036854775808 ≤ a * b ∧ a * b ≤ 9223372036854775807 := by
  have hr : ∀ v, isK k v = true → -2147483648 ≤ v ∧ v ≤ 2147483647 := fun v h => by
    rw [isK_range] at h
    simp only [decide_eq_true_eq] at h
    obtain ⟨h0, h7, h1, h2⟩ := h
    rcases (by omega : k = 1 ∨ k = 2 ∨ k = 3 ∨ k = 4 ∨ k = 5 ∨ k = 6 ∨ k = 7) with rfl | rfl | rfl | rfl | rfl | rfl | rfl
    all_goals first | exact absurd hb (by decide) | (simp only [leastK, manyK] at h1 h2; omega)
  have h1 := hr a ha
  have h2 := hr b hbb
  have h3 : (a * b).natAbs ≤ 2147483648 * 2147483648 := by
    rw [Int.natAbs_mul]
    exact Nat.mul_le_mul (by omega) (by omega)
  omega
def RetDo (op : Int) (k : Nat) (a b : Int) (w : World) (e : Ending) (w' : World) : Prop := e = .returned (.tuple #[.int .i64 (doV op k a b), .int .i64 (doE op k a b)]) ∧ Below w.heap.size w w'
theorem RetDo.mk {op : Int} {k : Nat} {a b : Int} {w w' : World} {v f : Int} (hf : doE op k a b = f) (hv : doV op k a b = v) (hb : Below w.heap.size w w') : RetDo op k a b w (.returned (.tuple #[.int .i64 v, .int .i64 f])) w' := by
  subst hf hv
  exact ⟨rfl, hb⟩
set_option maxRecDepth 100000 in
set_option maxHeartbeats 1000000 in
theorem do_13 (k a b : Int) (w : World) : Calls Try.prog 14 #[.int .i64 13, .int .i64 k, .int .i64 a, .int .i64 b] w (RetDo 13 (kN k) a b w) := by
  have hf : doE 13 (kN k) a b = 6 := by simp [doE]
  have hv : doV 13 (kN k) a b = 0 := by simp [doV, hf]
  have H := Lib.hid (And.intro hf hv)
  clear hf hv
  go_enter Try.func14, Try.ntmps14
  go_wp2
  go_ret2
  exact RetDo.mk H.out.1 H.out.2 (Below.refl _ _)
set_option maxRecDepth 100000 in
set_option maxHeartbeats 1000000 in
theorem do_not (op k a b : Int) (h13 : op ≠ 13) (hm : mayK op (kN k) = false) (w : World) : Calls Try.prog 14 #[.int .i64 op, .int .i64 k, .int .i64 a, .int .i64 b] w (RetDo op (kN k) a b w) := by
  have hf : doE op (kN k) a b = 6 := by simp [doE, hm]
  have hv : doV op (kN k) a b = 0 := by simp [doV, hf]
  have H := Lib.hid (And.intro hf hv)
  have h1 : (op == 13) = false := by rw [beq_eq_false_iff_ne]; exact h13
  have HM := Lib.hid hm
  clear hf hv hm h13
  go_enter Try.func14, Try.ntmps14
  go_wp2_with fail
  refine (may_any op k _).mono ?_
  rintro e w1 ⟨rfl, hb1⟩
  rw [HM.out]
  go_wp2
  go_ret2
  exact RetDo.mk H.out.1 H.out.2 hb1
set_option maxRecDepth 100000 in
set_option maxHeartbeats 1000000 in
theorem do_arg (op k a b : Int) (h13 : op ≠ 13) (hm : mayK op (kN k) = true) (hi : isK (kN k) a = false ∨ isK (kN k) b = false) (w : World) : Calls Try.prog 14 #[.int .i64 op, .int .i64 k, .int .i64 a, .int .i64 b] w (RetDo op (kN k) a b w) := by
  have hf : doE op (kN k) a b = 1 := by rw [doE, if_neg (by rw [hm]; simp [h13]), if_pos hi]
  have hv : doV op (kN k) a b = 0 := by simp [doV, hf]
  have H := Lib.hid (And.intro hf hv)
  have h1 : (op == 13) = false := by rw [beq_eq_false_iff_ne]; exact h13
  have HM := Lib.hid hm
  clear hf hv hm h13
  cases ha : isK (kN k) a with
  | false =>
    have HA := Lib.hid ha
    clear ha hi
    go_enter Try.func14, Try.ntmps14
    go_wp2_with fail
    refine (may_any op k _).mono ?_
    rintro e w1 ⟨rfl, hb1⟩
    rw [HM.out]
    go_wp2_with fail
    refine (is_any k a _).mono ?_
    rintro e w2 ⟨rfl, hb2⟩
    rw [HA.out]
    go_wp2
    go_ret2
    exact RetDo.mk H.out.1 H.out.2 (bt hb1 hb2)
  | true =>
    have hb : isK (kN k) b = false := by
      rcases hi with h | h
      · rw [ha] at h; cases h
      · exact h
    have HA := Lib.hid ha
    have HB := Lib.hid hb
    clear ha hi hb
    go_enter Try.func14, Try.ntmps14
    go_wp2_with fail
    refine (may_any op k _).mono ?_
    rintro e w1 ⟨rfl, hb1⟩
    rw [HM.out]
    go_wp2_with fail
    refine (is_any k a _).mono ?_
    rintro e w2 ⟨rfl, hb2⟩
    rw [HA.out]
    go_wp2_with fail
    refine (is_any k b _).mono ?_
    rintro e w3 ⟨rfl, hb3⟩
    rw [HB.out]
    go_wp2
    go_ret2
    exact RetDo.mk H.out.1 H.out.2 (bt (bt hb1 hb2) hb3)
set_option maxRecDepth 100000 in
set_option maxHeartbeats 1000000 in
theorem do_7 (k a b : Int) (hm : mayK 7 (kN k) = true) (ha : isK (kN k) a = true) (hb : isK (kN k) b = true) (w : World) : Calls Try.prog 14 #[.int .i64 7, .int .i64 k, .int .i64 a, .int .i64 b] w (RetDo 7 (kN k) a b w) := by
  have hf : doE 7 (kN k) a b = 0 := by simp [doE, hm, ha, hb]
  have hv : doV 7 (kN k) a b = doR 7 (kN k) a b := by simp [doV, hf]
  have hia := isK_in ha
  have hib := isK_in hb
  have HM := Lib.hid hm
  have HA := Lib.hid ha
  have HB := Lib.hid hb
  have hbk : bitsK (kN k) = true := by
    have h0 := hm
    unfold mayK at h0
    split at h0
    · cases h0
    · simpa using h0
  obtain ⟨x, hx, hx1, hx2⟩ := isK_bits hbk ha
  obtain ⟨y, hy, hy1, hy2⟩ := isK_bits hbk hb
  have HBK := Lib.hid hbk
  have H := Lib.hid (And.intro hf hv)
  clear hf hv hm
  clear ha hb hia hib hx2 hy2 hbk
  subst hx hy
  go_enter Try.func14, Try.ntmps14
  go_wp2_with fail
  refine (may_any _ k _).mono ?_
  rintro e w1 ⟨rfl, hb1⟩
  rw [HM.out]
  go_wp2_with fail
  refine (is_any k _ _).mono ?_
  rintro e w2 ⟨rfl, hb2⟩
  rw [HA.out]
  go_wp2_with fail
  refine (is_any k _ _).mono ?_
  rintro e w3 ⟨rfl, hb3⟩
  rw [HB.out]
  go_wp2_with fail
  refine (raw_7 x y (width_32 hx1) (width_32 hy1) _).mono ?_
  rintro e w4 ⟨rfl, hb4⟩
  go_wp2_with fail
  refine (wrap_any k _ _).mono ?_
  rintro e w5 ⟨rfl, hb5⟩
  go_wp2
  go_ret2
  refine RetDo.mk H.out.1 (H.out.2.trans ?_) (bt (bt (bt (bt hb1 hb2) hb3) hb4) hb5)
  have e : opN 7 x y = (x &&& y) := by simp [opN]
  rw [wrapK_bits HBK.out (by rw [← e]; exact opN_width 7 hx1 hy1), ← e]
  simp [doR]
set_option maxRecDepth 100000 in
set_option maxHeartbeats 1000000 in
theorem do_8 (k a b : Int) (hm : mayK 8 (kN k) = true) (ha : isK (kN k) a = true) (hb : isK (kN k) b = true) (w : World) : Calls Try.prog 14 #[.int .i64 8, .int .i64 k, .int .i64 a, .int .i64 b] w (RetDo 8 (kN k) a b w) := by
  have hf : doE 8 (kN k) a b = 0 := by simp [doE, hm, ha, hb]
  have hv : doV 8 (kN k) a b = doR 8 (kN k) a b := by simp [doV, hf]
  have hia := isK_in ha
  have hib := isK_in hb
  have HM := Lib.hid hm
  have HA := Lib.hid ha
  have HB := Lib.hid hb
  have hbk : bitsK (kN k) = true := by
    have h0 := hm
    unfold mayK at h0
    split at h0
    · cases h0
    · simpa using h0
  obtain ⟨x, hx, hx1, hx2⟩ := isK_bits hbk ha
  obtain ⟨y, hy, hy1, hy2⟩ := isK_bits hbk hb
  have HBK := Lib.hid hbk
  have H := Lib.hid (And.intro hf hv)
  clear hf hv hm
  clear ha hb hia hib hx2 hy2 hbk
  subst hx hy
  go_enter Try.func14, Try.ntmps14
  go_wp2_with fail
  refine (may_any _ k _).mono ?_
  rintro e w1 ⟨rfl, hb1⟩
  rw [HM.out]
  go_wp2_with fail
  refine (is_any k _ _).mono ?_
  rintro e w2 ⟨rfl, hb2⟩
  rw [HA.out]
  go_wp2_with fail
  refine (is_any k _ _).mono ?_
  rintro e w3 ⟨rfl, hb3⟩
  rw [HB.out]
  go_wp2_with fail
  refine (raw_8 x y (width_32 hx1) (width_32 hy1) _).mono ?_
  rintro e w4 ⟨rfl, hb4⟩
  go_wp2_with fail
  refine (wrap_any k _ _).mono ?_
  rintro e w5 ⟨rfl, hb5⟩
  go_wp2
  go_ret2
  refine RetDo.mk H.out.1 (H.out.2.trans ?_) (bt (bt (bt (bt hb1 hb2) hb3) hb4) hb5)
  have e : opN 8 x y = (x ||| y) := by simp [opN]
  rw [wrapK_bits HBK.out (by rw [← e]; exact opN_width 8 hx1 hy1), ← e]
  simp [doR]
set_option maxRecDepth 100000 in
set_option maxHeartbeats 1000000 in
theorem do_9 (k a b : Int) (hm : mayK 9 (kN k) = true) (ha : isK (kN k) a = true) (hb : isK (kN k) b = true) (w : World) : Calls Try.prog 14 #[.int .i64 9, .int .i64 k, .int .i64 a, .int .i64 b] w (RetDo 9 (kN k) a b w) := by
  have hf : doE 9 (kN k) a b = 0 := by simp [doE, hm, ha, hb]
  have hv : doV 9 (kN k) a b = doR 9 (kN k) a b := by simp [doV, hf]
  have hia := isK_in ha
  have hib := isK_in hb
  have HM := Lib.hid hm
  have HA := Lib.hid ha
  have HB := Lib.hid hb
  have hbk : bitsK (kN k) = true := by
    have h0 := hm
    unfold mayK at h0
    split at h0
    · cases h0
    · simpa using h0
  obtain ⟨x, hx, hx1, hx2⟩ := isK_bits hbk ha
  obtain ⟨y, hy, hy1, hy2⟩ := isK_bits hbk hb
  have HBK := Lib.hid hbk
  have H := Lib.hid (And.intro hf hv)
  clear hf hv hm
  clear ha hb hia hib hx2 hy2 hbk
  subst hx hy
  go_enter Try.func14, Try.ntmps14
  go_wp2_with fail
  refine (may_any _ k _).mono ?_
  rintro e w1 ⟨rfl, hb1⟩
  rw [HM.out]
  go_wp2_with fail
  refine (is_any k _ _).mono ?_
  rintro e w2 ⟨rfl, hb2⟩
  rw [HA.out]
  go_wp2_with fail
  refine (is_any k _ _).mono ?_
  rintro e w3 ⟨rfl, hb3⟩
  rw [HB.out]
  go_wp2_with fail
  refine (raw_9 x y (width_32 hx1) (width_32 hy1) _).mono ?_
  rintro e w4 ⟨rfl, hb4⟩
  go_wp2_with fail
  refine (wrap_any k _ _).mono ?_
  rintro e w5 ⟨rfl, hb5⟩
  go_wp2
  go_ret2
  refine RetDo.mk H.out.1 (H.out.2.trans ?_) (bt (bt (bt (bt hb1 hb2) hb3) hb4) hb5)
  have e : opN 9 x y = (x ^^^ y) := by simp [opN]
  rw [wrapK_bits HBK.out (by rw [← e]; exact opN_width 9 hx1 hy1), ← e]
  simp [doR]
set_option maxRecDepth 100000 in
set_option maxHeartbeats 1000000 in
theorem do_10 (k a b : Int) (hm : mayK 10 (kN k) = true) (ha : isK (kN k) a = true) (hb : isK (kN k) b = true) (w : World) : Calls Try.prog 14 #[.int .i64 10, .int .i64 k, .int .i64 a, .int .i64 b] w (RetDo 10 (kN k) a b w) := by
  have hf : doE 10 (kN k) a b = 0 := by simp [doE, hm, ha, hb]
  have hv : doV 10 (kN k) a b = doR 10 (kN k) a b := by simp [doV, hf]
  have hia := isK_in ha
  have hib := isK_in hb
  have HM := Lib.hid hm
  have HA := Lib.hid ha
  have HB := Lib.hid hb
  have hbk : bitsK (kN k) = true := by
    have h0 := hm
    unfold mayK at h0
    split at h0
    · cases h0
    · simpa using h0
  obtain ⟨x, hx, hx1, hx2⟩ := isK_bits hbk ha
  obtain ⟨y, hy, hy1, hy2⟩ := isK_bits hbk hb
  have HBK := Lib.hid hbk
  have H := Lib.hid (And.intro hf hv)
  clear hf hv hm
  obtain ⟨z, hz, hz1⟩ := notK_nat hbk hy1 (by rw [← hy]; exact hb)
  have HZ := Lib.hid hz
  clear ha hb hia hib hx2 hy2 hbk hz
  subst hx hy
  go_enter Try.func14, Try.ntmps14
  go_wp2_with fail
  refine (may_any _ k _).mono ?_
  rintro e w1 ⟨rfl, hb1⟩
  rw [HM.out]
  go_wp2_with fail
  refine (is_any k _ _).mono ?_
  rintro e w2 ⟨rfl, hb2⟩
  rw [HA.out]
  go_wp2_with fail
  refine (is_any k _ _).mono ?_
  rintro e w3 ⟨rfl, hb3⟩
  rw [HB.out]
  go_wp2_with fail
  refine (not_any k _ _).mono ?_
  rintro e w4 ⟨rfl, hb4⟩
  rw [HZ.out]
  go_wp2_with fail
  refine (raw_7 x z (width_32 hx1) (width_32 hz1) _).mono ?_
  rintro e w5 ⟨rfl, hb5⟩
  go_wp2_with fail
  refine (wrap_any k _ _).mono ?_
  rintro e w6 ⟨rfl, hb6⟩
  go_wp2
  go_ret2
  refine RetDo.mk H.out.1 (H.out.2.trans ?_) (bt (bt (bt (bt (bt hb1 hb2) hb3) hb4) hb5) hb6)
  have e : opN 7 x z = (x &&& z) := by simp [opN]
  rw [wrapK_bits HBK.out (by rw [← e]; exact opN_width 7 hx1 hz1), ← e]
  simp [doR, HZ.out]
set_option maxRecDepth 100000 in
set_option maxHeartbeats 1000000 in
theorem do_11 (k a b : Int) (hm : mayK 11 (kN k) = true) (ha : isK (kN k) a = true) (hb : isK (kN k) b = true) (w : World) : Calls Try.prog 14 #[.int .i64 11, .int .i64 k, .int .i64 a, .int .i64 b] w (RetDo 11 (kN k) a b w) := by
  have hf : doE 11 (kN k) a b = 0 := by simp [doE, hm, ha, hb]
  have hv : doV 11 (kN k) a b = doR 11 (kN k) a b := by simp [doV, hf]
  have hia := isK_in ha
  have hib := isK_in hb
  have HM := Lib.hid hm
  have HA := Lib.hid ha
  have HB := Lib.hid hb
  have hbk : bitsK (kN k) = true := by
    have h0 := hm
    unfold mayK at h0
    split at h0
    · cases h0
    · simpa using h0
  obtain ⟨x, hx, hx1, hx2⟩ := isK_bits hbk ha
  obtain ⟨y, hy, hy1, hy2⟩ := isK_bits hbk hb
  have HBK := Lib.hid hbk
  have H := Lib.hid (And.intro hf hv)
  clear hf hv hm
  obtain ⟨z, hz, hz1⟩ := notK_nat hbk hy1 (by rw [← hy]; exact hb)
  have HZ := Lib.hid hz
  clear ha hb hia hib hx2 hy2 hbk hz
  subst hx hy
  go_enter Try.func14, Try.ntmps14
  go_wp2_with fail
  refine (may_any _ k _).mono ?_
  rintro e w1 ⟨rfl, hb1⟩
  rw [HM.out]
  go_wp2_with fail
  refine (is_any k _ _).mono ?_
  rintro e w2 ⟨rfl, hb2⟩
  rw [HA.out]
  go_wp2_with fail
  refine (is_any k _ _).mono ?_
  rintro e w3 ⟨rfl, hb3⟩
  rw [HB.out]
  go_wp2_with fail
  refine (not_any k _ _).mono ?_
  rintro e w4 ⟨rfl, hb4⟩
  rw [HZ.out]
  go_wp2_with fail
  refine (raw_8 x z (width_32 hx1) (width_32 hz1) _).mono ?_
  rintro e w5 ⟨rfl, hb5⟩
  go_wp2_with fail
  refine (wrap_any k _ _).mono ?_
  rintro e w6 ⟨rfl, hb6⟩
  go_wp2
  go_ret2
  refine RetDo.mk H.out.1 (H.out.2.trans ?_) (bt (bt (bt (bt (bt hb1 hb2) hb3) hb4) hb5) hb6)
  have e : opN 8 x z = (x ||| z) := by simp [opN]
  rw [wrapK_bits HBK.out (by rw [← e]; exact opN_width 8 hx1 hz1), ← e]
  simp [doR, HZ.out]
set_option maxRecDepth 100000 in
set_option maxHeartbeats 1000000 in
theorem do_12 (k a b : Int) (hm : mayK 12 (kN k) = true) (ha : isK (kN k) a = true) (hb : isK (kN k) b = true) (w : World) : Calls Try.prog 14 #[.int .i64 12, .int .i64 k, .int .i64 a, .int .i64 b] w (RetDo 12 (kN k) a b w) := by
  have hf : doE 12 (kN k) a b = 0 := by simp [doE, hm, ha, hb]
  have hv : doV 12 (kN k) a b = doR 12 (kN k) a b := by simp [doV, hf]
  have hia := isK_in ha
  have hib := isK_in hb
  have HM := Lib.hid hm
  have HA := Lib.hid ha
  have HB := Lib.hid hb
  have hbk : bitsK (kN k) = true := by
    have h0 := hm
    unfold mayK at h0
    split at h0
    · cases h0
    · simpa using h0
  obtain ⟨x, hx, hx1, hx2⟩ := isK_bits hbk ha
  obtain ⟨y, hy, hy1, hy2⟩ := isK_bits hbk hb
  have HBK := Lib.hid hbk
  have H := Lib.hid (And.intro hf hv)
  clear hf hv hm
  obtain ⟨z, hz, hz1⟩ := notK_nat hbk hy1 (by rw [← hy]; exact hb)
  have HZ := Lib.hid hz
  clear ha hb hia hib hx2 hy2 hbk hz
  subst hx hy
  go_enter Try.func14, Try.ntmps14
  go_wp2_with fail
  refine (may_any _ k _).mono ?_
  rintro e w1 ⟨rfl, hb1⟩
  rw [HM.out]
  go_wp2_with fail
  refine (is_any k _ _).mono ?_
  rintro e w2 ⟨rfl, hb2⟩
  rw [HA.out]
  go_wp2_with fail
  refine (is_any k _ _).mono ?_
  rintro e w3 ⟨rfl, hb3⟩
  rw [HB.out]
  go_wp2_with fail
  refine (not_any k _ _).mono ?_
  rintro e w4 ⟨rfl, hb4⟩
  rw [HZ.out]
  go_wp2_with fail
  refine (raw_9 x z (width_32 hx1) (width_32 hz1) _).mono ?_
  rintro e w5 ⟨rfl, hb5⟩
  go_wp2_with fail
  refine (wrap_any k _ _).mono ?_
  rintro e w6 ⟨rfl, hb6⟩
  go_wp2
  go_ret2
  refine RetDo.mk H.out.1 (H.out.2.trans ?_) (bt (bt (bt (bt (bt hb1 hb2) hb3) hb4) hb5) hb6)
  have e : opN 9 x z = (x ^^^ z) := by simp [opN]
  rw [wrapK_bits HBK.out (by rw [← e]; exact opN_width 9 hx1 hz1), ← e]
  simp [doR, HZ.out]
set_option maxRecDepth 100000 in
set_option maxHeartbeats 1000000 in
theorem do_14 (k a b : Int) (hm : mayK 14 (kN k) = true) (ha : isK (kN k) a = true) (hb : isK (kN k) b = true) (w : World) : Calls Try.prog 14 #[.int .i64 14, .int .i64 k, .int .i64 a, .int .i64 b] w (RetDo 14 (kN k) a b w) := by
  have hf : doE 14 (kN k) a b = 0 := by simp [doE, hm, ha, hb]
  have hv : doV 14 (kN k) a b = doR 14 (kN k) a b := by simp [doV, hf]
  have hia := isK_in ha
  have hib := isK_in hb
  have HM := Lib.hid hm
  have HA := Lib.hid ha
  have HB := Lib.hid hb
  have HIA := Lib.hid hia
  have HIB := Lib.hid hib
  have H := Lib.hid (And.intro hf hv)
  clear hf hv hm
  clear ha hb hia hib
  go_enter Try.func14, Try.ntmps14
  go_wp2_with fail
  refine (may_any _ k _).mono ?_
  rintro e w1 ⟨rfl, hb1⟩
  rw [HM.out]
  go_wp2_with fail
  refine (is_any k _ _).mono ?_
  rintro e w2 ⟨rfl, hb2⟩
  rw [HA.out]
  go_wp2_with fail
  refine (is_any k _ _).mono ?_
  rintro e w3 ⟨rfl, hb3⟩
  rw [HB.out]
  go_wp2_with fail
  refine (raw_14 a b HIA.out HIB.out _).mono ?_
  rintro e w4 ⟨rfl, hb4⟩
  go_wp2_with fail
  refine (wrap_any k _ _).mono ?_
  rintro e w5 ⟨rfl, hb5⟩
  go_wp2
  go_ret2
  exact RetDo.mk H.out.1 (H.out.2.trans (by simp [doR])) (bt (bt (bt (bt hb1 hb2) hb3) hb4) hb5)
set_option maxRecDepth 100000 in
set_option maxHeartbeats 1000000 in
theorem do_15 (k a b : Int) (hm : mayK 15 (kN k) = true) (ha : isK (kN k) a = true) (hb : isK (kN k) b = true) (w : World) : Calls Try.prog 14 #[.int .i64 15, .int .i64 k, .int .i64 a, .int .i64 b] w (RetDo 15 (kN k) a b w) := by
  have hf : doE 15 (kN k) a b = 0 := by simp [doE, hm, ha, hb]
  have hv : doV 15 (kN k) a b = doR 15 (kN k) a b := by simp [doV, hf]
  have hia := isK_in ha
  have hib := isK_in hb
  have HM := Lib.hid hm
  have HA := Lib.hid ha
  have HB := Lib.hid hb
  have HIA := Lib.hid hia
  have HIB := Lib.hid hib
  have H := Lib.hid (And.intro hf hv)
  clear hf hv hm
  clear ha hb hia hib
  go_enter Try.func14, Try.ntmps14
  go_wp2_with fail
  refine (may_any _ k _).mono ?_
  rintro e w1 ⟨rfl, hb1⟩
  rw [HM.out]
  go_wp2_with fail
  refine (is_any k _ _).mono ?_
  rintro e w2 ⟨rfl, hb2⟩
  rw [HA.out]
  go_wp2_with fail
  refine (is_any k _ _).mono ?_
  rintro e w3 ⟨rfl, hb3⟩
  rw [HB.out]
  go_wp2_with fail
  refine (raw_15 a b HIA.out HIB.out _).mono ?_
  rintro e w4 ⟨rfl, hb4⟩
  go_wp2_with fail
  refine (wrap_any k _ _).mono ?_
  rintro e w5 ⟨rfl, hb5⟩
  go_wp2
  go_ret2
  exact RetDo.mk H.out.1 (H.out.2.trans (by simp [doR])) (bt (bt (bt (bt hb1 hb2) hb3) hb4) hb5)
set_option maxRecDepth 100000 in
set_option maxHeartbeats 1000000 in
theorem do_16 (k a b : Int) (hm : mayK 16 (kN k) = true) (ha : isK (kN k) a = true) (hb : isK (kN k) b = true) (w : World) : Calls Try.prog 14 #[.int .i64 16, .int .i64 k, .int .i64 a, .int .i64 b] w (RetDo 16 (kN k) a b w) := by
  have hf : doE 16 (kN k) a b = 0 := by simp [doE, hm, ha, hb]
  have hv : doV 16 (kN k) a b = doR 16 (kN k) a b := by simp [doV, hf]
  have hia := isK_in ha
  have hib := isK_in hb
  have HM := Lib.hid hm
  have HA := Lib.hid ha
  have HB := Lib.hid hb
  have HIA := Lib.hid hia
  have HIB := Lib.hid hib
  have hbk : bitsK (kN k) = false := by
    have h0 := hm
    unfold mayK at h0
    split at h0
    · cases h0
    · simpa using h0
  have HPR := Lib.hid (prod_in hbk ha hb)
  have H := Lib.hid (And.intro hf hv)
  clear hf hv hm
  clear ha hb hia hib
  go_enter Try.func14, Try.ntmps14
  go_wp2_with fail
  refine (may_any _ k _).mono ?_
  rintro e w1 ⟨rfl, hb1⟩
  rw [HM.out]
  go_wp2_with fail
  refine (is_any k _ _).mono ?_
  rintro e w2 ⟨rfl, hb2⟩
  rw [HA.out]
  go_wp2_with fail
  refine (is_any k _ _).mono ?_
  rintro e w3 ⟨rfl, hb3⟩
  rw [HB.out]
  go_wp2_with fail
  refine (raw_16 a b HIA.out HPR.out _).mono ?_
  rintro e w4 ⟨rfl, hb4⟩
  go_wp2_with fail
  refine (wrap_any k _ _).mono ?_
  rintro e w5 ⟨rfl, hb5⟩
  go_wp2
  go_ret2
  exact RetDo.mk H.out.1 (H.out.2.trans (by simp [doR])) (bt (bt (bt (bt hb1 hb2) hb3) hb4) hb5)
set_option maxRecDepth 100000 in
set_option maxHeartbeats 1000000 in
theorem do_17 (k a b : Int) (hm : mayK 17 (kN k) = true) (ha : isK (kN k) a = true) (hb : isK (kN k) b = true) (w : World) : Calls Try.prog 14 #[.int .i64 17, .int .i64 k, .int .i64 a, .int .i64 b] w (RetDo 17 (kN k) a b w) := by
  have hf : doE 17 (kN k) a b = 0 := by simp [doE, hm, ha, hb]
  have hv : doV 17 (kN k) a b = doR 17 (kN k) a b := by simp [doV, hf]
  have hia := isK_in ha
  have hib := isK_in hb
  have HM := Lib.hid hm
  have HA := Lib.hid ha
  have HB := Lib.hid hb
  have HIA := Lib.hid hia
  have HIB := Lib.hid hib
  have H := Lib.hid (And.intro hf hv)
  clear hf hv hm
  clear ha hb hia hib
  go_enter Try.func14, Try.ntmps14
  go_wp2_with fail
  refine (may_any _ k _).mono ?_
  rintro e w1 ⟨rfl, hb1⟩
  rw [HM.out]
  go_wp2_with fail
  refine (is_any k _ _).mono ?_
  rintro e w2 ⟨rfl, hb2⟩
  rw [HA.out]
  go_wp2_with fail
  refine (is_any k _ _).mono ?_
  rintro e w3 ⟨rfl, hb3⟩
  rw [HB.out]
  go_wp2_with fail
  refine (raw_17 a b HIA.out _).mono ?_
  rintro e w4 ⟨rfl, hb4⟩
  go_wp2_with fail
  refine (wrap_any k _ _).mono ?_
  rintro e w5 ⟨rfl, hb5⟩
  go_wp2
  go_ret2
  exact RetDo.mk H.out.1 (H.out.2.trans (by simp [doR])) (bt (bt (bt (bt hb1 hb2) hb3) hb4) hb5)
set_option maxRecDepth 100000 in
set_option maxHeartbeats 1000000 in
theorem do_18 (k a b : Int) (hm : mayK 18 (kN k) = true) (ha : isK (kN k) a = true) (hb : isK (kN k) b = true) (w : World) : Calls Try.prog 14 #[.int .i64 18, .int .i64 k, .int .i64 a, .int .i64 b] w (RetDo 18 (kN k) a b w) := by
  have hf : doE 18 (kN k) a b = 0 := by simp [doE, hm, ha, hb]
  have hv : doV 18 (kN k) a b = doR 18 (kN k) a b := by simp [doV, hf]
  have hia := isK_in ha
  have hib := isK_in hb
  have HM := Lib.hid hm
  have HA := Lib.hid ha
  have HB := Lib.hid hb
  have HIA := Lib.hid hia
  have HIB := Lib.hid hib
  have H := Lib.hid (And.intro hf hv)
  clear hf hv hm
  clear ha hb hia hib
  go_enter Try.func14, Try.ntmps14
  go_wp2_with fail
  refine (may_any _ k _).mono ?_
  rintro e w1 ⟨rfl, hb1⟩
  rw [HM.out]
  go_wp2_with fail
  refine (is_any k _ _).mono ?_
  rintro e w2 ⟨rfl, hb2⟩
  rw [HA.out]
  go_wp2_with fail
  refine (is_any k _ _).mono ?_
  rintro e w3 ⟨rfl, hb3⟩
  rw [HB.out]
  go_wp2_with fail
  refine (raw_18 a b HIA.out _).mono ?_
  rintro e w4 ⟨rfl, hb4⟩
  go_wp2_with fail
  refine (wrap_any k _ _).mono ?_
  rintro e w5 ⟨rfl, hb5⟩
  go_wp2
  go_ret2
  exact RetDo.mk H.out.1 (H.out.2.trans (by simp [doR])) (bt (bt (bt (bt hb1 hb2) hb3) hb4) hb5)
set_option maxRecDepth 100000 in
set_option maxHeartbeats 1000000 in
theorem do_19 (k a b : Int) (hm : mayK 19 (kN k) = true) (ha : isK (kN k) a = true) (hb : isK (kN k) b = true) (w : World) : Calls Try.prog 14 #[.int .i64 19, .int .i64 k, .int .i64 a, .int .i64 b] w (RetDo 19 (kN k) a b w) := by
  have hf : doE 19 (kN k) a b = 0 := by simp [doE, hm, ha, hb]
  have hv : doV 19 (kN k) a b = doR 19 (kN k) a b := by simp [doV, hf]
  have hia := isK_in ha
  have hib := isK_in hb
  have HM := Lib.hid hm
  have HA := Lib.hid ha
  have HB := Lib.hid hb
  have HIA := Lib.hid hia
  have H := Lib.hid (And.intro hf hv)
  clear hf hv hm
  clear ha hb hia hib
  go_enter Try.func14, Try.ntmps14
  go_wp2_with fail
  refine (may_any _ k _).mono ?_
  rintro e w1 ⟨rfl, hb1⟩
  rw [HM.out]
  go_wp2_with fail
  refine (is_any k _ _).mono ?_
  rintro e w2 ⟨rfl, hb2⟩
  rw [HA.out]
  go_wp2_with fail
  refine (is_any k _ _).mono ?_
  rintro e w3 ⟨rfl, hb3⟩
  rw [HB.out]
  go_wp2_with fail
  refine (raw_19 a b HIA.out _).mono ?_
  rintro e w4 ⟨rfl, hb4⟩
  go_wp2
  go_ret2
  exact RetDo.mk H.out.1 (H.out.2.trans (by simp [doR])) (bt (bt (bt hb1 hb2) hb3) hb4)
set_option maxRecDepth 100000 in
set_option maxHeartbeats 1000000 in
theorem do_20 (k a b : Int) (hm : mayK 20 (kN k) = true) (ha : isK (kN k) a = true) (hb : isK (kN k) b = true) (w : World) : Calls Try.prog 14 #[.int .i64 20, .int .i64 k, .int .i64 a, .int .i64 b] w (RetDo 20 (kN k) a b w) := by
  have hf : doE 20 (kN k) a b = 0 := by simp [doE, hm, ha, hb]
  have hv : doV 20 (kN k) a b = doR 20 (kN k) a b := by simp [doV, hf]
  have hia := isK_in ha
  have hib := isK_in hb
  have HM := Lib.hid hm
  have HA := Lib.hid ha
  have HB := Lib.hid hb
  have HIA := Lib.hid hia
  have H := Lib.hid (And.intro hf hv)
  clear hf hv hm
  clear ha hb hia hib
  go_enter Try.func14, Try.ntmps14
  go_wp2_with fail
  refine (may_any _ k _).mono ?_
  rintro e w1 ⟨rfl, hb1⟩
  rw [HM.out]
  go_wp2_with fail
  refine (is_any k _ _).mono ?_
  rintro e w2 ⟨rfl, hb2⟩
  rw [HA.out]
  go_wp2_with fail
  refine (is_any k _ _).mono ?_
  rintro e w3 ⟨rfl, hb3⟩
  rw [HB.out]
  go_wp2_with fail
  refine (raw_20 a b HIA.out _).mono ?_
  rintro e w4 ⟨rfl, hb4⟩
  go_wp2
  go_ret2
  exact RetDo.mk H.out.1 (H.out.2.trans (by simp [doR])) (bt (bt (bt hb1 hb2) hb3) hb4)
set_option maxRecDepth 100000 in
set_option maxHeartbeats 1000000 in
theorem do_21 (k a b : Int) (hm : mayK 21 (kN k) = true) (ha : isK (kN k) a = true) (hb : isK (kN k) b = true) (w : World) : Calls Try.prog 14 #[.int .i64 21, .int .i64 k, .int .i64 a, .int .i64 b] w (RetDo 21 (kN k) a b w) := by
  have hf : doE 21 (kN k) a b = 0 := by simp [doE, hm, ha, hb]
  have hv : doV 21 (kN k) a b = doR 21 (kN k) a b := by simp [doV, hf]
  have hia := isK_in ha
  have hib := isK_in hb
  have HM := Lib.hid hm
  have HA := Lib.hid ha
  have HB := Lib.hid hb
  have HIA := Lib.hid hia
  have H := Lib.hid (And.intro hf hv)
  clear hf hv hm
  clear ha hb hia hib
  go_enter Try.func14, Try.ntmps14
  go_wp2_with fail
  refine (may_any _ k _).mono ?_
  rintro e w1 ⟨rfl, hb1⟩
  rw [HM.out]
  go_wp2_with fail
  refine (is_any k _ _).mono ?_
  rintro e w2 ⟨rfl, hb2⟩
  rw [HA.out]
  go_wp2_with fail
  refine (is_any k _ _).mono ?_
  rintro e w3 ⟨rfl, hb3⟩
  rw [HB.out]
  go_wp2_with fail
  refine (raw_21 a b HIA.out _).mono ?_
  rintro e w4 ⟨rfl, hb4⟩
  go_wp2
  go_ret2
  exact RetDo.mk H.out.1 (H.out.2.trans (by simp [doR])) (bt (bt (bt hb1 hb2) hb3) hb4)
set_option maxRecDepth 100000 in
set_option maxHeartbeats 1000000 in
theorem do_22 (k a b : Int) (hm : mayK 22 (kN k) = true) (ha : isK (kN k) a = true) (hb : isK (kN k) b = true) (w : World) : Calls Try.prog 14 #[.int .i64 22, .int .i64 k, .int .i64 a, .int .i64 b] w (RetDo 22 (kN k) a b w) := by
  have hf : doE 22 (kN k) a b = 0 := by simp [doE, hm, ha, hb]
  have hv : doV 22 (kN k) a b = doR 22 (kN k) a b := by simp [doV, hf]
  have hia := isK_in ha
  have hib := isK_in hb
  have HM := Lib.hid hm
  have HA := Lib.hid ha
  have HB := Lib.hid hb
  have HIA := Lib.hid hia
  have H := Lib.hid (And.intro hf hv)
  clear hf hv hm
  clear ha hb hia hib
  go_enter Try.func14, Try.ntmps14
  go_wp2_with fail
  refine (may_any _ k _).mono ?_
  rintro e w1 ⟨rfl, hb1⟩
  rw [HM.out]
  go_wp2_with fail
  refine (is_any k _ _).mono ?_
  rintro e w2 ⟨rfl, hb2⟩
  rw [HA.out]
  go_wp2_with fail
  refine (is_any k _ _).mono ?_
  rintro e w3 ⟨rfl, hb3⟩
  rw [HB.out]
  go_wp2_with fail
  refine (raw_22 a b HIA.out _).mono ?_
  rintro e w4 ⟨rfl, hb4⟩
  go_wp2
  go_ret2
  exact RetDo.mk H.out.1 (H.out.2.trans (by simp [doR])) (bt (bt (bt hb1 hb2) hb3) hb4)
set_option maxRecDepth 100000 in
set_option maxHeartbeats 1000000 in
theorem do_23 (k a b : Int) (hm : mayK 23 (kN k) = true) (ha : isK (kN k) a = true) (hb : isK (kN k) b = true) (w : World) : Calls Try.prog 14 #[.int .i64 23, .int .i64 k, .int .i64 a, .int .i64 b] w (RetDo 23 (kN k) a b w) := by
  have hf : doE 23 (kN k) a b = 0 := by simp [doE, hm, ha, hb]
  have hv : doV 23 (kN k) a b = doR 23 (kN k) a b := by simp [doV, hf]
  have hia := isK_in ha
  have hib := isK_in hb
  have HM := Lib.hid hm
  have HA := Lib.hid ha
  have HB := Lib.hid hb
  have HIA := Lib.hid hia
  have H := Lib.hid (And.intro hf hv)
  clear hf hv hm
  clear ha hb hia hib
  go_enter Try.func14, Try.ntmps14
  go_wp2_with fail
  refine (may_any _ k _).mono ?_
  rintro e w1 ⟨rfl, hb1⟩
  rw [HM.out]
  go_wp2_with fail
  refine (is_any k _ _).mono ?_
  rintro e w2 ⟨rfl, hb2⟩
  rw [HA.out]
  go_wp2_with fail
  refine (is_any k _ _).mono ?_
  rintro e w3 ⟨rfl, hb3⟩
  rw [HB.out]
  go_wp2_with fail
  refine (raw_23 a b HIA.out _).mono ?_
  rintro e w4 ⟨rfl, hb4⟩
  go_wp2
  go_ret2
  exact RetDo.mk H.out.1 (H.out.2.trans (by simp [doR])) (bt (bt (bt hb1 hb2) hb3) hb4)
set_option maxRecDepth 100000 in
set_option maxHeartbeats 1000000 in
theorem do_24 (k a b : Int) (hm : mayK 24 (kN k) = true) (ha : isK (kN k) a = true) (hb : isK (kN k) b = true) (w : World) : Calls Try.prog 14 #[.int .i64 24, .int .i64 k, .int .i64 a, .int .i64 b] w (RetDo 24 (kN k) a b w) := by
  have hf : doE 24 (kN k) a b = 0 := by simp [doE, hm, ha, hb]
  have hv : doV 24 (kN k) a b = doR 24 (kN k) a b := by simp [doV, hf]
  have hia := isK_in ha
  have hib := isK_in hb
  have HM := Lib.hid hm
  have HA := Lib.hid ha
  have HB := Lib.hid hb
  have HIA := Lib.hid hia
  have H := Lib.hid (And.intro hf hv)
  clear hf hv hm
  clear ha hb hia hib
  go_enter Try.func14, Try.ntmps14
  go_wp2_with fail
  refine (may_any _ k _).mono ?_
  rintro e w1 ⟨rfl, hb1⟩
  rw [HM.out]
  go_wp2_with fail
  refine (is_any k _ _).mono ?_
  rintro e w2 ⟨rfl, hb2⟩
  rw [HA.out]
  go_wp2_with fail
  refine (is_any k _ _).mono ?_
  rintro e w3 ⟨rfl, hb3⟩
  rw [HB.out]
  go_wp2_with fail
  refine (raw_24 a b HIA.out _).mono ?_
  rintro e w4 ⟨rfl, hb4⟩
  go_wp2
  go_ret2
  exact RetDo.mk H.out.1 (H.out.2.trans (by simp [doR])) (bt (bt (bt hb1 hb2) hb3) hb4)
theorem may_op {op : Int} {k : Nat} (h : mayK op k = true) (h13 : op ≠ 13) : op = 7 ∨ op = 8 ∨ op = 9 ∨ op = 10 ∨ op = 11 ∨ op = 12 ∨ op = 14 ∨ op = 15 ∨ op = 16 ∨ op = 17 ∨ op = 18 ∨ op = 19 ∨ op = 20 ∨ op = 21 ∨ op = 22 ∨ op = 23 ∨ op = 24 := by
  unfold mayK at h
  split at h
  · cases h
  split at h
  · omega
  split at h
  · omega
  · simp at h; omega
theorem do_any (op k a b : Int) (w : World) : Calls Try.prog 14 #[.int .i64 op, .int .i64 k, .int .i64 a, .int .i64 b] w (RetDo op (kN k) a b w) := by
  by_cases h13 : op = 13
  · subst h13; exact do_13 k a b w
  cases hm : mayK op (kN k) with
  | false => exact do_not op k a b h13 hm w
  | true =>
    by_cases hi : isK (kN k) a = false ∨ isK (kN k) b = false
    · exact do_arg op k a b h13 hm hi w
    · have ha : isK (kN k) a = true := by cases h : isK (kN k) a with | true => rfl | false => exact absurd (.inl h) hi
      have hb : isK (kN k) b = true := by cases h : isK (kN k) b with | true => rfl | false => exact absurd (.inr h) hi
      rcases may_op hm h13 with rfl | rfl | rfl | rfl | rfl | rfl | rfl | rfl | rfl | rfl | rfl | rfl | rfl | rfl | rfl | rfl | rfl
      · exact do_7 k a b hm ha hb w
      · exact do_8 k a b hm ha hb w
      · exact do_9 k a b hm ha hb w
      · exact do_10 k a b hm ha hb w
      · exact do_11 k a b hm ha hb w
      · exact do_12 k a b hm ha hb w
      · exact do_14 k a b hm ha hb w
      · exact do_15 k a b hm ha hb w
      · exact do_16 k a b hm ha hb w
      · exact do_17 k a b hm ha hb w
      · exact do_18 k a b hm ha hb w
      · exact do_19 k a b hm ha hb w
      · exact do_20 k a b hm ha hb w
      · exact do_21 k a b hm ha hb w
      · exact do_22 k a b hm ha hb w
      · exact do_23 k a b hm ha hb w
      · exact do_24 k a b hm ha hb w
end Go.Proofs.Ytclbmgnpgjhlhaa
