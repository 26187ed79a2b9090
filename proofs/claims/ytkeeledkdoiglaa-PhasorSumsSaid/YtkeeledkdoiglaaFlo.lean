/- Whole numbers as floats: what is read back of a word; sums, products, comparisons (plain). -/
import Derived.Laws.ComplexArith
namespace Go.Proofs.Ytkeeledkdoiglaa
/-- A datum that stands for a whole number. -/
def FD (d : Ieee.Datum) (n : Int) : Prop := ∃ (s : Bool) (m q : Nat), d = .number s m (-(q : Int)) ∧ (if s then -(m : Int) else (m : Int)) = n * ((2 ^ q : Nat) : Int)
/-- A word that stands for a whole number. -/
def Fl (b : Nat) (n : Int) : Prop := FD (Ieee.double.read b) n
theorem log2_mul_pow (k q : Nat) (hk : k ≠ 0) : (k * 2 ^ q).log2 = k.log2 + q := by
  have h1 := Nat.log2_self_le hk
  have h2 := Nat.lt_log2_self (n := k)
  have hp : 0 < 2 ^ q := Nat.two_pow_pos q
  have hne : k * 2 ^ q ≠ 0 := Nat.mul_ne_zero hk (by omega)
  apply Nat.le_antisymm
  · have : (k * 2 ^ q).log2 < k.log2 + q + 1 := by
      rw [Nat.log2_lt hne]
      rw [show k.log2 + q + 1 = (k.log2 + 1) + q by omega, Nat.pow_add]
      exact Nat.mul_lt_mul_of_pos_right h2 hp
    omega
  · rw [Nat.le_log2 hne, Nat.pow_add]
    exact Nat.mul_le_mul_right _ h1
theorem signed_eq (s : Bool) (m u : Nat) : Ieee.signed s m u = (if s then -(m : Int) else (m : Int)) * ((2 ^ u : Nat) : Int) := by
  unfold Ieee.signed
  rw [Nat.shiftLeft_eq]
  cases s <;> simp [Int.neg_mul]
theorem cut_even_exact (s : Bool) (M d : Nat) (hM : M ≠ 0) : Ieee.Toward.even.cut s (M * 2 ^ d) d = M := by
  have hp : 0 < 2 ^ d := Nat.two_pow_pos d
  have hl : d ≤ (M * 2 ^ d).log2 + 2 := by rw [log2_mul_pow M d hM]; omega
  unfold Ieee.Toward.cut
  simp only [Nat.min_eq_left hl, Nat.one_shiftLeft, Nat.mul_mod_left, Nat.mul_div_cancel _ hp]
  have h1 : decide (2 ^ d < 2 * 0) = false := by simp
  have h2 : (2 ^ d == 2 * 0) = false := by rw [beq_eq_false_iff_ne]; omega
  rw [h1, h2]
  simp
theorem cut_zero_exact (s : Bool) (M d : Nat) : Ieee.Toward.zero.cut s (M * 2 ^ d) d = M := by
  have hp : 0 < 2 ^ d := Nat.two_pow_pos d
  unfold Ieee.Toward.cut
  by_cases hM : M = 0
  · subst hM; simp
  · have hl : d ≤ (M * 2 ^ d).log2 + 2 := by rw [log2_mul_pow M d hM]; omega
    simp only [Nat.min_eq_left hl, Nat.one_shiftLeft, Nat.mul_div_cancel _ hp]
    simp
theorem read_word_zero (s : Bool) : Ieee.double.read (Ieee.double.word s 0) = .number s 0 (-1074) := by cases s <;> decide
theorem read_word (s : Bool) (L F : Nat) (hL : L ≤ 52) (hF : F < 2 ^ 52) :
    Ieee.double.read (Ieee.double.word s ((L + 1023) * 2 ^ 52 + F)) = .number s (2 ^ 52 + F) (-((52 - L : Nat) : Int)) := by
  have hw : Ieee.double.signWeight = 2 ^ 63 := by decide
  have hb : Ieee.double.binade = 2 ^ 52 := by decide
  have hi : Ieee.double.infRung = 2047 * 2 ^ 52 := by decide
  have hl : Ieee.double.leastPlace = -1074 := by decide
  have e1 : Ieee.double.word s ((L + 1023) * 2 ^ 52 + F) / 2 ^ 63 % 2 = s.toNat := by
    unfold Ieee.Format.word
    rw [hw]
    cases s <;> simp <;> omega
  have e2 : Ieee.double.word s ((L + 1023) * 2 ^ 52 + F) % 2 ^ 63 = (L + 1023) * 2 ^ 52 + F := by
    unfold Ieee.Format.word
    rw [hw]
    cases s <;> simp <;> omega
  unfold Ieee.Format.read
  simp only [hw, hb, hi, hl, e1, e2]
  rw [if_neg (by omega), if_pos (by omega)]
  have e3 : ((L + 1023) * 2 ^ 52 + F) % 2 ^ 52 = F := by omega
  have e4 : ((L + 1023) * 2 ^ 52 + F) / 2 ^ 52 = L + 1023 := by omega
  rw [e3, e4]
  have e5 : (s.toNat == 1) = s := by cases s <;> rfl
  rw [e5]
  have e6 : (-1074 : Int) + ((L + 1023 - 1 : Nat) : Int) = -((52 - L : Nat) : Int) := by omega
  rw [e6]
/-- What is written of a whole number is read as it. -/
theorem nearest_fl (s : Bool) (k q : Nat) (hk : k < 2 ^ 53) : Fl (Ieee.double.nearest s (k * 2 ^ q) (-(q : Int))) (if s then -(k : Int) else (k : Int)) := by
  unfold Fl
  by_cases h0 : k = 0
  · subst h0
    have hz : ∀ z : Int, (if s then -((0 : Nat) : Int) else ((0 : Nat) : Int)) = (if s then -((0 : Nat) : Int) else ((0 : Nat) : Int)) * z := by cases s <;> simp
    refine ⟨s, 0, 1074, ?_, hz _⟩
    have : Ieee.double.nearest s (0 * 2 ^ q) (-(q : Int)) = Ieee.double.word s 0 := by simp [Ieee.Format.nearest]
    rw [this]
    exact read_word_zero s
  · have hp : 0 < 2 ^ q := Nat.two_pow_pos q
    have hne : k * 2 ^ q ≠ 0 := Nat.mul_ne_zero h0 (by omega)
    have hlog := log2_mul_pow k q h0
    obtain ⟨L, hL⟩ : ∃ L, L = k.log2 := ⟨_, rfl⟩
    have hL52 : L ≤ 52 := by
      have : k.log2 < 53 := by rw [Nat.log2_lt h0]; exact hk
      omega
    have h1 : 2 ^ L ≤ k := by rw [hL]; exact Nat.log2_self_le h0
    have h2 : k < 2 ^ (L + 1) := by rw [hL]; exact Nat.lt_log2_self
    have hM1 : 2 ^ 52 ≤ k * 2 ^ (52 - L) := by
      have := Nat.mul_le_mul_right (2 ^ (52 - L)) h1
      rwa [← Nat.pow_add, show L + (52 - L) = 52 by omega] at this
    have hM2 : k * 2 ^ (52 - L) < 2 ^ 53 := by
      have := Nat.mul_lt_mul_of_pos_right h2 (Nat.two_pow_pos (52 - L))
      rwa [← Nat.pow_add, show L + 1 + (52 - L) = 53 by omega] at this
    have hlp : Ieee.double.leastPlace = -1074 := by decide
    have hb : Ieee.double.binade = 2 ^ 52 := by decide
    have hi : Ieee.double.infRung = 2047 * 2 ^ 52 := by decide
    have hfb : (Ieee.double.fractionBits : Int) = 52 := by decide
    have hlast : max (-(q : Int) + ((k.log2 + q : Nat) : Int) - 52) (-1074) = (L : Int) - 52 := by omega
    obtain ⟨F, hF⟩ : ∃ F, k * 2 ^ (52 - L) = 2 ^ 52 + F := ⟨k * 2 ^ (52 - L) - 2 ^ 52, by omega⟩
    have hkept : Ieee.Toward.even.cut s ((k * 2 ^ q) <<< (-(q : Int) - ((L : Int) - 52)).toNat) (((L : Int) - 52) - -(q : Int)).toNat = k * 2 ^ (52 - L) := by
      have hMne : k * 2 ^ (52 - L) ≠ 0 := by omega
      by_cases hc : q + L ≤ 52
      · have a1 : (-(q : Int) - ((L : Int) - 52)).toNat = 52 - L - q := by omega
        have a2 : (((L : Int) - 52) - -(q : Int)).toNat = 0 := by omega
        rw [a1, a2, Nat.shiftLeft_eq, Nat.mul_assoc, ← Nat.pow_add, show q + (52 - L - q) = 52 - L by omega]
        have := cut_even_exact s _ 0 hMne
        simpa using this
      · have a1 : (-(q : Int) - ((L : Int) - 52)).toNat = 0 := by omega
        have a2 : (((L : Int) - 52) - -(q : Int)).toNat = L + q - 52 := by omega
        rw [a1, a2, Nat.shiftLeft_zero]
        have e : k * 2 ^ q = k * 2 ^ (52 - L) * 2 ^ (L + q - 52) := by
          rw [Nat.mul_assoc, ← Nat.pow_add, show 52 - L + (L + q - 52) = q by omega]
        rw [e]
        exact cut_even_exact s _ _ hMne
    have hword : Ieee.double.nearest s (k * 2 ^ q) (-(q : Int)) = Ieee.double.word s ((L + 1023) * 2 ^ 52 + F) := by
      unfold Ieee.Format.nearest
      rw [if_neg hne]
      simp only [hlog, hlp, hb, hi, hfb, hlast, hkept]
      congr 1
      have a3 : ((L : Int) - 52 - -1074).toNat = L + 1022 := by omega
      rw [a3, Nat.min_eq_left (by omega), hF]
      omega
    rw [hword, read_word s L F hL52 (by omega)]
    refine ⟨s, 2 ^ 52 + F, 52 - L, rfl, ?_⟩
    rw [← hF]
    cases s <;> simp [Int.natCast_mul, Int.neg_mul]
theorem fl_write {d : Ieee.Datum} {n : Int} (h : FD d n) (hn : -9007199254740992 < n ∧ n < 9007199254740992) : Fl (Ieee.double.write d) n := by
  obtain ⟨s, m, q, rfl, hv⟩ := h
  have hp : 0 < 2 ^ q := Nat.two_pow_pos q
  have hm : m = n.natAbs * 2 ^ q := by
    have := congrArg Int.natAbs hv
    rw [Int.natAbs_mul, Int.natAbs_natCast] at this
    rw [← this]
    cases s <;> simp
  have := nearest_fl s n.natAbs q (by omega)
  rw [← hm] at this
  have e : (if s then -((n.natAbs : Nat) : Int) else ((n.natAbs : Nat) : Int)) = n := by
    have hpp : (0 : Int) < ((2 ^ q : Nat) : Int) := by exact_mod_cast hp
    cases s with
    | true =>
      simp only [if_true] at hv ⊢
      have : n ≤ 0 := by
        by_cases hc : n ≤ 0
        · exact hc
        · have := Int.mul_pos (show 0 < n by omega) hpp
          omega
      omega
    | false =>
      simp only [Bool.false_eq_true, if_false] at hv ⊢
      have : 0 ≤ n := by
        by_cases hc : 0 ≤ n
        · exact hc
        · have := Int.mul_neg_of_neg_of_pos (show n < 0 by omega) hpp
          omega
      omega
  rw [e] at this
  exact this
theorem fd_sum {a b : Ieee.Datum} {x y : Int} (ha : FD a x) (hb : FD b y) : ∃ d, a.sum b = some d ∧ FD d (x + y) := by
  obtain ⟨s, m, p, rfl, hx⟩ := ha
  obtain ⟨t, n, q, rfl, hy⟩ := hb
  obtain ⟨M, hM⟩ : ∃ M : Nat, M = max p q := ⟨_, rfl⟩
  have hbase : min (-(p : Int)) (-(q : Int)) = -(M : Int) := by omega
  have e1 : (-(p : Int) - -(M : Int)).toNat = M - p := by omega
  have e2 : (-(q : Int) - -(M : Int)).toNat = M - q := by omega
  have ht : Ieee.signed s m (M - p) + Ieee.signed t n (M - q) = (x + y) * ((2 ^ M : Nat) : Int) := by
    rw [signed_eq, signed_eq, hx, hy, Int.mul_assoc, Int.mul_assoc, ← Int.natCast_mul, ← Int.natCast_mul, ← Nat.pow_add, ← Nat.pow_add,
      show p + (M - p) = M by omega, show q + (M - q) = M by omega, Int.add_mul]
  refine ⟨_, rfl, ?_⟩
  simp only [hbase, e1, e2, ht]
  refine ⟨_, _, M, rfl, ?_⟩
  generalize (x + y) * ((2 ^ M : Nat) : Int) = z
  by_cases hz : z = 0
  · simp [hz]
  · rw [if_neg hz]
    by_cases hn : z < 0
    · simp [hn]; omega
    · simp [hn]; omega
theorem fd_opp {a : Ieee.Datum} {x : Int} (ha : FD a x) : FD a.opposite (-x) := by
  obtain ⟨s, m, p, rfl, hx⟩ := ha
  refine ⟨!s, m, p, rfl, ?_⟩
  rw [Int.neg_mul, ← hx]
  cases s <;> simp
theorem fd_product {a b : Ieee.Datum} {x y : Int} (ha : FD a x) (hb : FD b y) : ∃ d, a.product b = some d ∧ FD d (x * y) := by
  obtain ⟨s, m, p, rfl, hx⟩ := ha
  obtain ⟨t, n, q, rfl, hy⟩ := hb
  refine ⟨_, rfl, s ^^ t, m * n, p + q, ?_, ?_⟩
  · congr 1
    omega
  · rw [Nat.pow_add, Int.natCast_mul (2 ^ p) (2 ^ q), show x * y * (((2 ^ p : Nat) : Int) * ((2 ^ q : Nat) : Int)) = (x * ((2 ^ p : Nat) : Int)) * (y * ((2 ^ q : Nat) : Int)) by
      rw [Int.mul_assoc, Int.mul_assoc, Int.mul_left_comm y], ← hx, ← hy]
    cases s <;> cases t <;> simp [Int.natCast_mul, Int.neg_mul, Int.mul_neg]
theorem fd_order {a b : Ieee.Datum} {x y : Int} (ha : FD a x) (hb : FD b y) : a.order b = some (compare x y) := by
  obtain ⟨s, m, p, rfl, hx⟩ := ha
  obtain ⟨t, n, q, rfl, hy⟩ := hb
  obtain ⟨M, hM⟩ : ∃ M : Nat, M = max p q := ⟨_, rfl⟩
  have hbase : min (-(p : Int)) (-(q : Int)) = -(M : Int) := by omega
  have e1 : (-(p : Int) - -(M : Int)).toNat = M - p := by omega
  have e2 : (-(q : Int) - -(M : Int)).toNat = M - q := by omega
  have h1 : Ieee.signed s m (M - p) = x * ((2 ^ M : Nat) : Int) := by
    rw [signed_eq, hx, Int.mul_assoc, ← Int.natCast_mul, ← Nat.pow_add, show p + (M - p) = M by omega]
  have h2 : Ieee.signed t n (M - q) = y * ((2 ^ M : Nat) : Int) := by
    rw [signed_eq, hy, Int.mul_assoc, ← Int.natCast_mul, ← Nat.pow_add, show q + (M - q) = M by omega]
  simp only [Ieee.Datum.order, hbase, e1, e2, h1, h2]
  have hpp : (0 : Int) < ((2 ^ M : Nat) : Int) := by exact_mod_cast Nat.two_pow_pos M
  congr 1
  rcases Int.lt_trichotomy x y with h | h | h
  · rw [Int.compare_eq_lt.2 h, Int.compare_eq_lt.2 (Int.mul_lt_mul_of_pos_right h hpp)]
  · subst h
    simp
  · rw [Int.compare_eq_gt.2 h, Int.compare_eq_gt.2 (Int.mul_lt_mul_of_pos_right h hpp)]
theorem fd_int {a : Ieee.Datum} {x : Int} (ha : FD a x) : a.toInt .zero = some x := by
  obtain ⟨s, m, p, rfl, hx⟩ := ha
  have hp : 0 < 2 ^ p := Nat.two_pow_pos p
  have hm : m = x.natAbs * 2 ^ p := by
    have := congrArg Int.natAbs hx
    rw [Int.natAbs_mul, Int.natAbs_natCast] at this
    rw [← this]
    cases s <;> simp
  have e1 : (-(p : Int)).toNat = 0 := by omega
  have e2 : (- -(p : Int)).toNat = p := by omega
  simp only [Ieee.Datum.toInt, Ieee.Datum.integral, e1, e2, Nat.shiftLeft_zero]
  rw [hm, cut_zero_exact]
  congr 1
  rw [signed_eq]
  have hpp : (0 : Int) < ((2 ^ p : Nat) : Int) := by exact_mod_cast hp
  cases s with
  | true =>
    simp only [if_true] at hx ⊢
    have : x ≤ 0 := by
      by_cases hc : x ≤ 0
      · exact hc
      · have := Int.mul_pos (show 0 < x by omega) hpp
        omega
    simp
    omega
  | false =>
    simp only [Bool.false_eq_true, if_false] at hx ⊢
    have : 0 ≤ x := by
      by_cases hc : 0 ≤ x
      · exact hc
      · have := Int.mul_neg_of_neg_of_pos (show x < 0 by omega) hpp
        omega
    simp
    omega
-- words
def Small53 (n : Int) : Prop := -9007199254740992 < n ∧ n < 9007199254740992
theorem fl_add {a b : Nat} {x y : Int} (ha : Fl a x) (hb : Fl b y) (h : Small53 (x + y)) : ∃ r, floatBits .add .f64 a b = some r ∧ Fl r (x + y) := by
  obtain ⟨d, h1, h2⟩ := fd_sum ha hb
  refine ⟨Ieee.double.write d, ?_, fl_write h2 h⟩
  simp [floatBits, FloatKind.format, Ieee.Format.add, h1]
theorem fl_sub {a b : Nat} {x y : Int} (ha : Fl a x) (hb : Fl b y) (h : Small53 (x - y)) : ∃ r, floatBits .sub .f64 a b = some r ∧ Fl r (x - y) := by
  obtain ⟨d, h1, h2⟩ := fd_sum ha (fd_opp hb)
  refine ⟨Ieee.double.write d, ?_, fl_write (by rw [Int.sub_eq_add_neg]; exact h2) h⟩
  simp [floatBits, FloatKind.format, Ieee.Format.sub, h1]
theorem fl_mul {a b : Nat} {x y : Int} (ha : Fl a x) (hb : Fl b y) (h : Small53 (x * y)) : ∃ r, floatBits .mul .f64 a b = some r ∧ Fl r (x * y) := by
  obtain ⟨d, h1, h2⟩ := fd_product ha hb
  refine ⟨Ieee.double.write d, ?_, fl_write h2 h⟩
  simp [floatBits, FloatKind.format, Ieee.Format.mul, h1]
theorem fl_order {a b : Nat} {x y : Int} (ha : Fl a x) (hb : Fl b y) : FloatKind.f64.format.order a b = some (compare x y) := fd_order ha hb
theorem fl_int {a : Nat} {x : Int} (ha : Fl a x) (h : Small53 x) : floatToIntVal .f64 a .i64 = some x := by
  unfold floatToIntVal
  have : (FloatKind.f64.decode a).toInt .zero = some x := fd_int ha
  rw [this]
  obtain ⟨h1, h2⟩ := h
  have e : IntKind.i64.min = -9223372036854775808 := by decide
  have e' : IntKind.i64.max = 9223372036854775807 := by decide
  simp only
  rw [if_pos]
  rw [e, e']
  omega
theorem fl_of (n : Int) (h : Small53 n) : Fl (floatOfInt .f64 n) n := by
  refine fl_write (d := .number (n < 0) n.natAbs 0) ⟨_, _, 0, rfl, ?_⟩ h
  by_cases hn : n < 0
  · simp [hn]; omega
  · simp [hn]; omega
end Go.Proofs.Ytkeeledkdoiglaa
