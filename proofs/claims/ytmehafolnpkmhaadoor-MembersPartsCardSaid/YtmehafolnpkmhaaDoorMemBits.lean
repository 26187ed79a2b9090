/- Numbers as sets of bits: the lowest one, the highest one, how many (plain). -/
import Derived.Lib.TrailingZeros
namespace Go.Proofs.YtmehafolnpkmhaaDoor.PMem
theorem ctz_bits (x : Nat) (h0 : x ≠ 0) (hx : x < 4294967296) : Lib.ctz 32 x < 32 ∧ x.testBit (Lib.ctz 32 x) = true ∧ ∀ i, i < Lib.ctz 32 x → x.testBit i = false := by
  unfold Lib.ctz
  rw [if_neg h0]
  obtain ⟨m, hm, hk⟩ := Lib.ctzFrom_spec 32 x (by omega) (by omega)
  generalize Lib.ctzFrom 32 x = k at *
  subst hm
  refine ⟨hk, ?_, ?_⟩
  · rw [Nat.testBit_two_pow_mul]
    simp
  · intro i hi
    rw [Nat.testBit_two_pow_mul]
    simp
    omega
theorem top_bits (x k : Nat) (h1 : 2 ^ k ≤ x) (h2 : x < 2 ^ (k + 1)) : x.testBit k = true ∧ ∀ i, k < i → x.testBit i = false := by
  constructor
  · rw [Nat.testBit_eq_decide_div_mod_eq]
    have hp : 0 < 2 ^ k := Nat.pow_pos (by decide)
    have : x / 2 ^ k = 1 := by
      apply Nat.div_eq_of_lt_le
      · omega
      · rw [Nat.pow_succ] at h2; omega
    rw [this]
    rfl
  · intro i hi
    exact Nat.testBit_lt_two_pow (Nat.lt_of_lt_of_le h2 (Nat.pow_le_pow_right (by decide) hi))
/-- How many of the bits from i on (d of them) are set. -/
def cnt (x : Nat) : Nat → Nat → Nat
  | _, 0 => 0
  | i, d + 1 => (if x.testBit i = true then 1 else 0) + cnt x (i + 1) d
theorem cnt_split (x : Nat) : ∀ (d e i : Nat), cnt x i (d + e) = cnt x i d + cnt x (i + d) e
  | 0, e, i => by simp [cnt]
  | d + 1, e, i => by
    rw [show d + 1 + e = (d + e) + 1 by omega]
    simp only [cnt]
    rw [cnt_split x d e (i + 1), show i + 1 + d = i + (d + 1) by omega]
    omega
theorem cnt_shift (x s : Nat) : ∀ (d i : Nat), cnt x (i + s) d = cnt (x / 2 ^ s) i d
  | 0, i => rfl
  | d + 1, i => by
    simp only [cnt]
    rw [show i + s + 1 = (i + 1) + s by omega, cnt_shift x s d (i + 1), Nat.testBit_div_two_pow]
theorem cnt_mod (x n : Nat) : ∀ (d i : Nat), i + d ≤ n → cnt (x % 2 ^ n) i d = cnt x i d
  | 0, i, _ => rfl
  | d + 1, i, h => by
    simp only [cnt]
    rw [cnt_mod x n d (i + 1) (by omega), Nat.testBit_mod_two_pow]
    simp [show i < n by omega]
theorem cnt_bytes (x : Nat) : cnt x 0 32 = cnt (x / 16777216 % 256) 0 8 + cnt (x / 65536 % 256) 0 8 + cnt (x / 256 % 256) 0 8 + cnt (x % 256) 0 8 := by
  have h3 := cnt_shift x 24 8 0
  have h2 := cnt_shift x 16 8 0
  have h1 := cnt_shift x 8 8 0
  have m0 := cnt_mod x 8 8 0 (by omega)
  have m1 := cnt_mod (x / 2 ^ 8) 8 8 0 (by omega)
  have m2 := cnt_mod (x / 2 ^ 16) 8 8 0 (by omega)
  have m3 := cnt_mod (x / 2 ^ 24) 8 8 0 (by omega)
  have s1 := cnt_split x 8 24 0
  have s2 := cnt_split x 8 16 8
  have s3 := cnt_split x 8 8 16
  simp only [show (2:Nat) ^ 8 = 256 from rfl, show (2:Nat) ^ 16 = 65536 from rfl, show (2:Nat) ^ 24 = 16777216 from rfl, Nat.zero_add, show 8 + 24 = 32 from rfl, show 8 + 16 = 24 from rfl, show 8 + 8 = 16 from rfl, show 16 + 8 = 24 from rfl] at *
  omega
/-- Two numbers below 2^32 with the same 32 bits. -/
theorem bits_ext (x y : Nat) (hx : x < 4294967296) (hy : y < 4294967296) (h : ∀ i, i < 32 → x.testBit i = y.testBit i) : x = y := by
  apply Nat.eq_of_testBit_eq
  intro i
  by_cases hi : i < 32
  · exact h i hi
  · have hp : 2 ^ 32 ≤ 2 ^ i := Nat.pow_le_pow_right (by decide) (by omega)
    rw [Nat.testBit_lt_two_pow (i := i) (by omega), Nat.testBit_lt_two_pow (i := i) (by omega)]
/-- Below 2^32. -/
abbrev Set32 (x : Nat) : Prop := x < 4294967296
theorem or_lt (x n : Nat) (hx : Set32 x) (hn : n < 32) : Set32 (x ||| 2 ^ n) := by
  have hp : 2 ^ n ≤ 2 ^ 31 := Nat.pow_le_pow_right (by decide) (by omega)
  have ho : x ||| 2 ^ n < 2 ^ 32 := Nat.or_lt_two_pow (by omega) (by omega)
  unfold Set32
  omega
theorem or_bit (x n i : Nat) : (x ||| 2 ^ n).testBit i = (x.testBit i || decide (n = i)) := by
  rw [Nat.testBit_or, Nat.testBit_two_pow]
theorem zero_of (x : Nat) (hx : Set32 x) (h : ∀ i, i < 32 → x.testBit i = false) : x = 0 :=
  bits_ext x 0 hx (by decide) fun i hi => by rw [h i hi, Nat.zero_testBit]
theorem lt_of_bit {x i : Nat} (hx : Set32 x) (h : x.testBit i = true) : i < 32 := by
  rcases Nat.lt_or_ge i 32 with hi | hi
  · exact hi
  · have hp : 2 ^ 32 ≤ 2 ^ i := Nat.pow_le_pow_right (by decide) (by omega)
    unfold Set32 at hx
    rw [Nat.testBit_lt_two_pow (i := i) (by omega)] at h
    cases h
/-- Who is in a set, from number i on (d numbers). -/
def elems (x : Nat) : Nat → Nat → List Int
  | _, 0 => []
  | i, d + 1 => if x.testBit i = true then (i : Int) :: elems x (i + 1) d else elems x (i + 1) d
/-- Who comes next behind a, from a + j on (d tries). -/
def turnI (x a : Nat) : Nat → Nat → Int
  | _, 0 => -1
  | j, d + 1 => if x.testBit ((a + j) % 32) = true then (((a + j) % 32 : Nat) : Int) else turnI x a (j + 1) d
/-- Who comes next ahead of a, from a - j on (d tries). -/
def prevI (x a : Nat) : Nat → Nat → Int
  | _, 0 => -1
  | j, d + 1 => if x.testBit ((a + 32 - j) % 32) = true then (((a + 32 - j) % 32 : Nat) : Int) else prevI x a (j + 1) d

theorem elems_skip (x : Nat) : ∀ (d e i : Nat), (∀ c, i ≤ c → c < i + d → x.testBit c = false) → elems x i (d + e) = elems x (i + d) e
  | 0, e, i, _ => by simp
  | d + 1, e, i, h => by
    rw [show d + 1 + e = (d + e) + 1 by omega]
    simp only [elems]
    rw [h i (by omega) (by omega)]
    simp only [Bool.false_eq_true, if_false]
    rw [elems_skip x d e (i + 1) (fun c h1 h2 => h c (by omega) (by omega)), show i + 1 + d = i + (d + 1) by omega]
theorem elems_congr (x y : Nat) : ∀ (d i : Nat), (∀ c, i ≤ c → c < i + d → x.testBit c = y.testBit c) → elems x i d = elems y i d
  | 0, i, _ => rfl
  | d + 1, i, h => by
    simp only [elems]
    rw [h i (by omega) (by omega), elems_congr x y d (i + 1) (fun c h1 h2 => h c (by omega) (by omega))]
theorem elems_none (x d i : Nat) (h : ∀ c, i ≤ c → c < i + d → x.testBit c = false) : elems x i d = [] := by
  have := elems_skip x d 0 i h
  simpa [elems] using this
/-- The lowest one stands first. -/
theorem elems_first (x b : Nat) (hb : b < 32) (h : x.testBit b = true) (hl : ∀ i, i < b → x.testBit i = false) : elems x 0 32 = (b : Int) :: elems x (b + 1) (31 - b) := by
  have := elems_skip x b (32 - b) 0 (fun c _ h2 => hl c (by omega))
  rw [show b + (32 - b) = 32 by omega] at this
  rw [this, show 32 - b = (31 - b) + 1 by omega, Nat.zero_add]
  simp only [elems, h, if_true]
theorem elems_mem (x : Nat) : ∀ (d i : Nat) (n : Int), n ∈ elems x i d ↔ ∃ c : Nat, n = (c : Int) ∧ i ≤ c ∧ c < i + d ∧ x.testBit c = true
  | 0, i, n => by simp [elems]; intro c _ h1 h2; omega
  | d + 1, i, n => by
    simp only [elems]
    split
    · next h =>
      rw [List.mem_cons, elems_mem x d (i + 1) n]
      constructor
      · rintro (rfl | ⟨c, h1, h2, h3, h4⟩)
        · exact ⟨i, rfl, by omega, by omega, h⟩
        · exact ⟨c, h1, by omega, by omega, h4⟩
      · rintro ⟨c, h1, h2, h3, h4⟩
        by_cases hc : c = i
        · left; rw [h1, hc]
        · right; exact ⟨c, h1, by omega, by omega, h4⟩
    · next h =>
      rw [elems_mem x d (i + 1) n]
      constructor
      · rintro ⟨c, h1, h2, h3, h4⟩
        exact ⟨c, h1, by omega, by omega, h4⟩
      · rintro ⟨c, h1, h2, h3, h4⟩
        by_cases hc : c = i
        · subst hc; exact absurd h4 h
        · exact ⟨c, h1, by omega, by omega, h4⟩
theorem elems_len (x : Nat) : ∀ (d i : Nat), (elems x i d).length = cnt x i d
  | 0, i => rfl
  | d + 1, i => by
    simp only [elems, cnt]
    split
    · rw [List.length_cons, elems_len x d (i + 1)]; omega
    · rw [elems_len x d (i + 1)]; omega
theorem cnt_le (x : Nat) : ∀ (d i : Nat), cnt x i d ≤ d
  | 0, i => by simp [cnt]
  | d + 1, i => by
    simp only [cnt]
    have := cnt_le x d (i + 1)
    split <;> omega
/-- Numbers put into a set, one by one. -/
def ofL : Nat → List Int → Nat
  | s, [] => s
  | s, n :: l => ofL (s ||| 2 ^ n.toNat) l
theorem ofL_bit : ∀ (l : List Int) (s i : Nat), (ofL s l).testBit i = (s.testBit i || l.any fun n => decide (n.toNat = i))
  | [], s, i => by simp [ofL]
  | n :: l, s, i => by
    simp only [ofL, List.any_cons]
    rw [ofL_bit l, or_bit, Bool.or_assoc]
theorem ofL_lt : ∀ (l : List Int) (s : Nat), Set32 s → (∀ n ∈ l, n.toNat < 32) → Set32 (ofL s l)
  | [], s, h, _ => h
  | n :: l, s, h, hl => ofL_lt l _ (or_lt s _ h (hl n (by simp))) (fun m hm => hl m (by simp [hm]))
theorem elems_any (x : Nat) (hx : Set32 x) (p : Int → Bool) (i : Nat) : ((elems x 0 32).filter p).any (fun n => decide (n.toNat = i)) = (x.testBit i && p (i : Int)) := by
  rw [Bool.eq_iff_iff]
  simp only [List.any_eq_true, List.mem_filter, elems_mem, decide_eq_true_eq, Bool.and_eq_true]
  constructor
  · rintro ⟨n, ⟨⟨c, rfl, _, _, h⟩, hp⟩, rfl⟩
    rw [Int.toNat_natCast]
    exact ⟨h, hp⟩
  · rintro ⟨h, hp⟩
    exact ⟨i, ⟨⟨i, rfl, by omega, by have := lt_of_bit hx h; omega, h⟩, hp⟩, Int.toNat_natCast i⟩
theorem elems_lt (x : Nat) : ∀ n ∈ elems x 0 32, 0 ≤ n ∧ n < 32 := by
  intro n hn
  obtain ⟨c, rfl, _, h, _⟩ := (elems_mem x 32 0 n).1 hn
  omega
/-! ### Who comes next -/
theorem turnI_of (x a i b : Nat) (hb : (a + i) % 32 = b) (hx : x.testBit b = true) : ∀ (d j : Nat), j ≤ i → i < j + d → (∀ i', j ≤ i' → i' < i → x.testBit ((a + i') % 32) = false) → turnI x a j d = (b : Int)
  | 0, j, h1, h2, _ => by omega
  | d + 1, j, h1, h2, h => by
    simp only [turnI]
    by_cases hj : j = i
    · subst hj; rw [hb, if_pos hx]
    · rw [h j (by omega) (by omega)]
      simp only [Bool.false_eq_true, if_false]
      exact turnI_of x a i b hb hx d (j + 1) (by omega) (by omega) (fun i' h3 h4 => h i' (by omega) h4)
theorem turnI_none (x a : Nat) (h : ∀ i, i < 32 → x.testBit i = false) : ∀ (d j : Nat), turnI x a j d = -1
  | 0, j => rfl
  | d + 1, j => by
    simp only [turnI]
    rw [h _ (Nat.mod_lt _ (by decide))]
    simp only [Bool.false_eq_true, if_false]
    exact turnI_none x a h d (j + 1)
theorem prevI_of (x a i b : Nat) (hb : (a + 32 - i) % 32 = b) (hx : x.testBit b = true) : ∀ (d j : Nat), j ≤ i → i < j + d → (∀ i', j ≤ i' → i' < i → x.testBit ((a + 32 - i') % 32) = false) → prevI x a j d = (b : Int)
  | 0, j, h1, h2, _ => by omega
  | d + 1, j, h1, h2, h => by
    simp only [prevI]
    by_cases hj : j = i
    · subst hj; rw [hb, if_pos hx]
    · rw [h j (by omega) (by omega)]
      simp only [Bool.false_eq_true, if_false]
      exact prevI_of x a i b hb hx d (j + 1) (by omega) (by omega) (fun i' h3 h4 => h i' (by omega) h4)
theorem prevI_none (x a : Nat) : ∀ (d j : Nat), (∀ i', j ≤ i' → i' < j + d → x.testBit ((a + 32 - i') % 32) = false) → prevI x a j d = -1
  | 0, j, _ => rfl
  | d + 1, j, h => by
    simp only [prevI]
    rw [h j (by omega) (by omega)]
    simp only [Bool.false_eq_true, if_false]
    exact prevI_none x a d (j + 1) (fun i' h3 h4 => h i' (by omega) (by omega))
end Go.Proofs.YtmehafolnpkmhaaDoor.PMem
