/- Members (plain): what the program's functions make of sets, as bits. -/
import Derived.Test.YtmehafolnpkmhaaDoorMemPure
namespace Go.Proofs.YtmehafolnpkmhaaDoor.PMem
open Go.RowKit Go.Proofs.YtmehafolnpkmhaaDoorW.PrintWords Go.Proofs.YtmehafolnpkmhaaDoorW.PrintLast
def flip32 (b : Nat) : Nat := 4294967295 - b
theorem flip_bit (b i : Nat) (hb : Set32 b) : (flip32 b).testBit i = (decide (i < 32) && !b.testBit i) := by
  have := Nat.testBit_two_pow_sub_succ (x := b) (n := 32) (by unfold Set32 at hb; omega) i
  rw [← this]
  unfold flip32
  congr 1
  omega
theorem flip_lt (b : Nat) : Set32 (flip32 b) := by unfold Set32 flip32; omega
theorem and_lt (a b : Nat) (hb : Set32 b) : Set32 (a &&& b) := by
  have : a &&& b < 2 ^ 32 := Nat.and_lt_two_pow _ (by unfold Set32 at hb; omega)
  unfold Set32; omega
theorem or_lt' (a b : Nat) (ha : Set32 a) (hb : Set32 b) : Set32 (a ||| b) := by
  have : a ||| b < 2 ^ 32 := Nat.or_lt_two_pow (by unfold Set32 at ha; omega) (by unfold Set32 at hb; omega)
  unfold Set32; omega
theorem ofInt32 (a : Nat) (ha : Set32 a) : (BitVec.ofInt 32 (a : Int)).toNat = a := by
  rw [BitVec.ofInt_natCast, BitVec.toNat_ofNat]; exact Nat.mod_eq_of_lt (by unfold Set32 at ha; omega)
theorem or_u32 (a b : Nat) (ha : Set32 a) (hb : Set32 b) : bits .or .u32 (a : Int) (b : Int) = ((a ||| b : Nat) : Int) := (u32_bits a b ha hb).1
theorem and_u32 (a b : Nat) (ha : Set32 a) (hb : Set32 b) : bits .and .u32 (a : Int) (b : Int) = ((a &&& b : Nat) : Int) := and_u32_nat a b ha hb
theorem andNot_u32 (a b : Nat) (ha : Set32 a) (hb : Set32 b) : bits .andNot .u32 (a : Int) (b : Int) = ((a &&& flip32 b : Nat) : Int) := by
  have hx := and_lt a (flip32 b) (flip_lt b)
  unfold Set32 at hx
  show IntKind.u32.wrap ((BitVec.ofInt 32 (a : Int) &&& ~~~ BitVec.ofInt 32 (b : Int)).toNat : Int) = _
  rw [BitVec.toNat_and, BitVec.toNat_not, ofInt32 a ha, ofInt32 b hb, IntKind.wrap_u32']
  have : 2 ^ 32 - 1 - b = flip32 b := rfl
  rw [this]
  omega
theorem not_u32 (b : Nat) (hb : Set32 b) : bits .xor .u32 (-1) (b : Int) = ((flip32 b : Nat) : Int) := by
  have hx := flip_lt b
  unfold Set32 at hx
  show IntKind.u32.wrap ((BitVec.ofInt 32 (-1) ^^^ BitVec.ofInt 32 (b : Int)).toNat : Int) = _
  have h1 : BitVec.ofInt 32 (-1) = BitVec.allOnes 32 := by decide
  rw [h1, BitVec.allOnes_xor, BitVec.toNat_not, ofInt32 b hb, IntKind.wrap_u32']
  have : 2 ^ 32 - 1 - b = flip32 b := rfl
  rw [this]
  omega
/-- The set of an address. -/
def oneN (a : Int) : Nat := if 0 ≤ a ∧ a < 32 then 2 ^ a.toNat else 0
theorem oneN_lt (a : Int) : Set32 (oneN a) := by
  unfold oneN Set32
  split
  · have hp : 2 ^ a.toNat ≤ 2 ^ 31 := Nat.pow_le_pow_right (by decide) (by omega)
    omega
  · omega
theorem oneN_bit (a : Int) (i : Nat) : (oneN a).testBit i = decide ((i : Int) = a ∧ i < 32) := by
  unfold oneN
  split
  · rw [Nat.testBit_two_pow, Bool.eq_iff_iff]
    simp
    omega
  · rw [Nat.zero_testBit, Bool.eq_iff_iff]
    simp
    omega
theorem oneN_nat (n : Nat) (h : n < 32) : oneN (n : Int) = 2 ^ n := by
  unfold oneN
  rw [if_pos (by omega), Int.toNat_natCast]
theorem oneN_no (a : Int) (h : ¬ (0 ≤ a ∧ a < 32)) : oneN a = 0 := by unfold oneN; rw [if_neg h]
theorem is_eq (a : Int) : members_is.f a = some (decide (0 ≤ a ∧ a < 32)) := by
  unfold members_is.f
  split
  · congr 1; rw [Bool.eq_iff_iff]; simp; omega
  · congr 1; rw [Bool.eq_iff_iff]; simp; omega
theorem one_any (a : Int) : members_one.f a = some ((oneN a : Nat) : Int) := by
  by_cases h : 0 ≤ a ∧ a < 32
  · obtain ⟨n, rfl⟩ := Int.eq_ofNat_of_zero_le h.1
    rw [one_eq n (by omega), oneN_nat n (by omega)]
  · unfold members_one.f
    rw [is_eq, Option.bind_some, decide_eq_false h, oneN_no a h]
    rfl
/-- All less than n. -/
def belowN (n : Nat) : Nat := 2 ^ n - 1
theorem belowN_bit (n i : Nat) : (belowN n).testBit i = decide (i < n) := Nat.testBit_two_pow_sub_one n i
theorem belowN_lt (n : Nat) (h : n < 32) : Set32 (belowN n) := by
  have hp : 2 ^ n ≤ 2 ^ 31 := Nat.pow_le_pow_right (by decide) (by omega)
  unfold belowN Set32
  omega
theorem below_any (n : Nat) (h : n < 32) : members_below.f (n : Int) = some ((belowN n : Nat) : Int) := below_eq n h
def withN (x : Nat) (a : Int) : Nat := x ||| oneN a
def withoutN (x : Nat) (a : Int) : Nat := x &&& flip32 (oneN a)
theorem withN_lt (x : Nat) (a : Int) (hx : Set32 x) : Set32 (withN x a) := or_lt' _ _ hx (oneN_lt a)
theorem withoutN_lt (x : Nat) (a : Int) : Set32 (withoutN x a) := and_lt _ _ (flip_lt _)
theorem withN_bit (x : Nat) (a : Int) (i : Nat) : (withN x a).testBit i = (x.testBit i || decide ((i : Int) = a ∧ i < 32)) := by
  unfold withN; rw [Nat.testBit_or, oneN_bit]
theorem withoutN_bit (x : Nat) (a : Int) (i : Nat) (hi : i < 32) : (withoutN x a).testBit i = (x.testBit i && !decide ((i : Int) = a)) := by
  unfold withoutN; rw [Nat.testBit_and, flip_bit _ _ (oneN_lt a), oneN_bit]
  simp [hi]
theorem mWith_eq (x : Nat) (a : Int) (hx : Set32 x) : members_With.f (x : Int) a = some ((withN x a : Nat) : Int) := by
  unfold members_With.f
  rw [one_any, Option.bind_some, or_u32 _ _ hx (oneN_lt a)]; rfl
theorem mWithout_eq (x : Nat) (a : Int) (hx : Set32 x) : members_Without.f (x : Int) a = some ((withoutN x a : Nat) : Int) := by
  unfold members_Without.f
  rw [one_any, Option.bind_some, andNot_u32 _ _ hx (oneN_lt a)]; rfl
theorem first_eq (x : Nat) (hx : Set32 x) : members_first.f (x : Int) = some (if x = 0 then ((0 : Int), false) else (((Lib.ctz 32 x : Nat) : Int), true)) := by
  unfold members_first.f bits_TrailingZeros32.f
  by_cases h : x = 0
  · subst h; rfl
  · rw [if_neg (by omega), if_neg h, if_pos (by unfold Set32 at hx; omega), Int.toNat_natCast]; rfl
/-! ### Len32 -/
theorem w64id (n : Int) (h1 : -9223372036854775808 ≤ n) (h2 : n ≤ 9223372036854775807) : wrap64 n = n := by unfold wrap64; omega
theorem some_eq {a b : Int} (h : a = b) : some a = some b := by rw [h]
def lenTab : ByteArray := (⟨#[0, 1, 2, 2, 3, 3, 3, 3, 4, 4, 4, 4, 4, 4, 4, 4, 5, 5, 5, 5, 5, 5, 5, 5, 5, 5, 5, 5, 5, 5, 5, 5, 6, 6, 6, 6, 6, 6, 6, 6, 6, 6, 6, 6, 6, 6, 6, 6, 6, 6, 6, 6, 6, 6, 6, 6, 6, 6, 6, 6, 6, 6, 6, 6, 7, 7, 7, 7, 7, 7, 7, 7, 7, 7, 7, 7, 7, 7, 7, 7, 7, 7, 7, 7, 7, 7, 7, 7, 7, 7, 7, 7, 7, 7, 7, 7, 7, 7, 7, 7, 7, 7, 7, 7, 7, 7, 7, 7, 7, 7, 7, 7, 7, 7, 7, 7, 7, 7, 7, 7, 7, 7, 7, 7, 7, 7, 7, 7, 8, 8, 8, 8, 8, 8, 8, 8, 8, 8, 8, 8, 8, 8, 8, 8, 8, 8, 8, 8, 8, 8, 8, 8, 8, 8, 8, 8, 8, 8, 8, 8, 8, 8, 8, 8, 8, 8, 8, 8, 8, 8, 8, 8, 8, 8, 8, 8, 8, 8, 8, 8, 8, 8, 8, 8, 8, 8, 8, 8, 8, 8, 8, 8, 8, 8, 8, 8, 8, 8, 8, 8, 8, 8, 8, 8, 8, 8, 8, 8, 8, 8, 8, 8, 8, 8, 8, 8, 8, 8, 8, 8, 8, 8, 8, 8, 8, 8, 8, 8, 8, 8, 8, 8, 8, 8, 8, 8, 8, 8, 8, 8, 8, 8, 8, 8, 8, 8, 8, 8, 8, 8, 8, 8, 8, 8, 8, 8]⟩ : ByteArray)
def popTab : ByteArray := (⟨#[0, 1, 1, 2, 1, 2, 2, 3, 1, 2, 2, 3, 2, 3, 3, 4, 1, 2, 2, 3, 2, 3, 3, 4, 2, 3, 3, 4, 3, 4, 4, 5, 1, 2, 2, 3, 2, 3, 3, 4, 2, 3, 3, 4, 3, 4, 4, 5, 2, 3, 3, 4, 3, 4, 4, 5, 3, 4, 4, 5, 4, 5, 5, 6, 1, 2, 2, 3, 2, 3, 3, 4, 2, 3, 3, 4, 3, 4, 4, 5, 2, 3, 3, 4, 3, 4, 4, 5, 3, 4, 4, 5, 4, 5, 5, 6, 2, 3, 3, 4, 3, 4, 4, 5, 3, 4, 4, 5, 4, 5, 5, 6, 3, 4, 4, 5, 4, 5, 5, 6, 4, 5, 5, 6, 5, 6, 6, 7, 1, 2, 2, 3, 2, 3, 3, 4, 2, 3, 3, 4, 3, 4, 4, 5, 2, 3, 3, 4, 3, 4, 4, 5, 3, 4, 4, 5, 4, 5, 5, 6, 2, 3, 3, 4, 3, 4, 4, 5, 3, 4, 4, 5, 4, 5, 5, 6, 3, 4, 4, 5, 4, 5, 5, 6, 4, 5, 5, 6, 5, 6, 6, 7, 2, 3, 3, 4, 3, 4, 4, 5, 3, 4, 4, 5, 4, 5, 5, 6, 3, 4, 4, 5, 4, 5, 5, 6, 4, 5, 5, 6, 5, 6, 6, 7, 3, 4, 4, 5, 4, 5, 5, 6, 4, 5, 5, 6, 5, 6, 6, 7, 4, 5, 5, 6, 5, 6, 6, 7, 5, 6, 6, 7, 6, 7, 7, 8]⟩ : ByteArray)
theorem len32_def (a0 : Int) : bits_Len32.f a0 = if a0 ≥ 65536 then (if (a0 / 65536) ≥ 256 then (if 0 ≤ (((a0 / 65536) / 256) % 256) then (if (((a0 / 65536) / 256) % 256) < 256 then (some (wrap64 ((16 + 8) + (wrap64 (bt lenTab (((a0 / 65536) / 256) % 256)))))) else (none)) else (none)) else (if 0 ≤ ((a0 / 65536) % 256) then (if ((a0 / 65536) % 256) < 256 then (some (wrap64 (16 + (wrap64 (bt lenTab ((a0 / 65536) % 256)))))) else (none)) else (none))) else (if a0 ≥ 256 then (if 0 ≤ ((a0 / 256) % 256) then (if ((a0 / 256) % 256) < 256 then (some (wrap64 ((0 + 8) + (wrap64 (bt lenTab ((a0 / 256) % 256)))))) else (none)) else (none)) else (if 0 ≤ ((a0) % 256) then (if ((a0) % 256) < 256 then (some (wrap64 (0 + (wrap64 (bt lenTab ((a0) % 256)))))) else (none)) else (none))) := rfl
theorem pop32_def (a0 : Int) : bits_OnesCount32.f a0 = if 0 ≤ (a0 / 16777216) then (if (a0 / 16777216) < 256 then (if 0 ≤ (Go.bits .and .u32 (a0 / 65536) 255) then (if (Go.bits .and .u32 (a0 / 65536) 255) < 256 then (if 0 ≤ (Go.bits .and .u32 (a0 / 256) 255) then (if (Go.bits .and .u32 (a0 / 256) 255) < 256 then (if 0 ≤ (Go.bits .and .u32 a0 255) then (if (Go.bits .and .u32 a0 255) < 256 then (some (((((((bt popTab (a0 / 16777216)) + (bt popTab (Go.bits .and .u32 (a0 / 65536) 255))) % 256) + (bt popTab (Go.bits .and .u32 (a0 / 256) 255))) % 256) + (bt popTab (Go.bits .and .u32 a0 255))) % 256)) else (none)) else (none)) else (none)) else (none)) else (none)) else (none)) else (none)) else (none) := rfl
theorem len8_tab : ∀ i : Fin 256, i.val ≠ 0 → ∃ k : Fin 8, bt lenTab (i.val : Int) = (k.val : Int) + 1 ∧ 2 ^ k.val ≤ i.val ∧ i.val < 2 ^ (k.val + 1) := by decide +kernel
theorem len8_at (i : Nat) (h : i < 256) (h0 : i ≠ 0) : ∃ k : Nat, k < 8 ∧ bt lenTab (i : Int) = (k : Int) + 1 ∧ 2 ^ k ≤ i ∧ i < 2 ^ (k + 1) := by
  obtain ⟨k, h1, h2, h3⟩ := len8_tab ⟨i, h⟩ h0
  exact ⟨k.val, k.isLt, h1, h2, h3⟩
theorem pow_div (x k s : Nat) (h1 : 2 ^ k ≤ x / 2 ^ s) (h2 : x / 2 ^ s < 2 ^ (k + 1)) : 2 ^ (k + s) ≤ x ∧ x < 2 ^ (k + s + 1) := by
  have hp : 0 < 2 ^ s := Nat.pow_pos (by decide)
  constructor
  · rw [Nat.pow_add]
    exact (Nat.le_div_iff_mul_le hp).1 h1
  · rw [show k + s + 1 = (k + 1) + s by omega, Nat.pow_add]
    exact (Nat.div_lt_iff_lt_mul hp).1 h2
theorem len32_eq (x : Nat) (hx : Set32 x) (h0 : x ≠ 0) : ∃ k : Nat, k < 32 ∧ bits_Len32.f (x : Int) = some ((k : Int) + 1) ∧ 2 ^ k ≤ x ∧ x < 2 ^ (k + 1) := by
  unfold Set32 at hx
  rw [len32_def]
  by_cases h16 : x ≥ 65536
  · rw [if_pos (by omega)]
    by_cases h24 : x / 65536 ≥ 256
    · rw [if_pos (by omega), if_pos (by omega), if_pos (by omega)]
      obtain ⟨k, hk, h1, h2, h3⟩ := len8_at (x / 16777216) (by omega) (by omega)
      obtain ⟨h4, h5⟩ := pow_div x k 24 h2 h3
      refine ⟨k + 24, by omega, ?_, h4, h5⟩
      have e : ((x : Int) / 65536) / 256 % 256 = ((x / 16777216 : Nat) : Int) := by omega
      rw [e]
      rw [h1]
      rw [w64id ((k : Int) + 1) (by omega) (by omega), w64id _ (by omega) (by omega)]
      exact some_eq (by omega)
    · rw [if_neg (by omega), if_pos (by omega), if_pos (by omega)]
      obtain ⟨k, hk, h1, h2, h3⟩ := len8_at (x / 65536) (by omega) (by omega)
      obtain ⟨h4, h5⟩ := pow_div x k 16 h2 h3
      refine ⟨k + 16, by omega, ?_, h4, h5⟩
      have e : ((x : Int) / 65536) % 256 = ((x / 65536 : Nat) : Int) := by omega
      rw [e]
      rw [h1]
      rw [w64id ((k : Int) + 1) (by omega) (by omega), w64id _ (by omega) (by omega)]
      exact some_eq (by omega)
  · rw [if_neg (by omega)]
    by_cases h8 : x ≥ 256
    · rw [if_pos (by omega), if_pos (by omega), if_pos (by omega)]
      obtain ⟨k, hk, h1, h2, h3⟩ := len8_at (x / 256) (by omega) (by omega)
      obtain ⟨h4, h5⟩ := pow_div x k 8 h2 h3
      refine ⟨k + 8, by omega, ?_, h4, h5⟩
      have e : ((x : Int) / 256) % 256 = ((x / 256 : Nat) : Int) := by omega
      rw [e]
      rw [h1]
      rw [w64id ((k : Int) + 1) (by omega) (by omega), w64id _ (by omega) (by omega)]
      exact some_eq (by omega)
    · rw [if_neg (by omega), if_pos (by omega), if_pos (by omega)]
      obtain ⟨k, hk, h1, h2, h3⟩ := len8_at x (by omega) h0
      refine ⟨k, by omega, ?_, h2, h3⟩
      have e : (x : Int) % 256 = (x : Int) := by omega
      rw [e]
      rw [h1]
      rw [w64id ((k : Int) + 1) (by omega) (by omega), w64id _ (by omega) (by omega)]
      exact some_eq (by omega)
theorem last_none : members_last.f 0 = some (0, false) := rfl
theorem last_eq (x : Nat) (hx : Set32 x) (h0 : x ≠ 0) : ∃ k : Nat, k < 32 ∧ members_last.f (x : Int) = some ((k : Int), true) ∧ x.testBit k = true ∧ ∀ i, k < i → x.testBit i = false := by
  obtain ⟨k, hk, h1, h2, h3⟩ := len32_eq x hx h0
  obtain ⟨h4, h5⟩ := top_bits x k h2 h3
  refine ⟨k, hk, ?_, h4, h5⟩
  unfold members_last.f
  rw [if_neg (by omega), h1, Option.bind_some]
  have : wrap64 ((k : Int) + 1 - 1) = k := by unfold wrap64; omega
  rw [this]
/-! ### Turn, Next, Prev -/
theorem mTurn_no (x a : Int) (h : ¬ (0 ≤ a ∧ a < 32)) : members_Turn.f x a = some (0, false) := by
  unfold members_Turn.f
  rw [is_eq, Option.bind_some, decide_eq_false h]; rfl
def turnR (x a : Nat) : Int × Bool := if x = 0 then (0, false) else (turnI x a 1 32, true)
theorem mTurn_eq (x a : Nat) (hx : Set32 x) (ha : a < 32) : members_Turn.f (x : Int) (a : Int) = some (turnR x a) := by
  have hb : Set32 (belowN a ||| oneN (a : Int)) := or_lt' _ _ (belowN_lt a ha) (oneN_lt _)
  have hy : Set32 (x &&& flip32 (belowN a ||| oneN (a : Int))) := and_lt _ _ (flip_lt _)
  have hyb : ∀ i, (x &&& flip32 (belowN a ||| oneN (a : Int))).testBit i = (x.testBit i && decide (a < i) && decide (i < 32)) := by
    intro i
    rw [Nat.testBit_and, flip_bit _ _ hb, Nat.testBit_or, belowN_bit, oneN_bit, Bool.eq_iff_iff]
    cases x.testBit i
    · simp
    · simp
      omega
  unfold members_Turn.f
  rw [is_eq, Option.bind_some, decide_eq_true (by omega), if_pos rfl, below_any a ha, Option.bind_some, one_any, Option.bind_some, or_u32 _ _ (belowN_lt a ha) (oneN_lt _), andNot_u32 _ _ hx hb, first_eq _ hy, Option.bind_some]
  unfold turnR
  generalize x &&& flip32 (belowN a ||| oneN (a : Int)) = y at *
  by_cases h : y = 0
  · rw [if_pos h]
    simp only [Bool.false_eq_true, if_false]
    rw [first_eq _ hx, Option.bind_some]
    by_cases h0 : x = 0
    · rw [if_pos h0, if_pos h0]
    · rw [if_neg h0, if_neg h0]
      obtain ⟨hk, hkb, hkl⟩ := ctz_bits x h0 hx
      have hle : Lib.ctz 32 x ≤ a := by
        rcases Nat.lt_or_ge a (Lib.ctz 32 x) with h1 | h1
        · have := hyb (Lib.ctz 32 x)
          rw [h, Nat.zero_testBit, hkb] at this
          simp [h1, hk] at this
        · exact h1
      rw [turnI_of x a (Lib.ctz 32 x + 32 - a) (Lib.ctz 32 x) (by omega) hkb 32 1 (by omega) (by omega) ?_]
      intro i' h1 h2
      by_cases h3 : a + i' < 32
      · rw [Nat.mod_eq_of_lt h3]
        have := hyb (a + i')
        rw [h, Nat.zero_testBit] at this
        simpa [h3, show 0 < i' by omega] using this.symm
      · rw [show (a + i') % 32 = a + i' - 32 by omega]
        exact hkl _ (by omega)
  · rw [if_neg h]
    simp only [if_true]
    obtain ⟨hk, hkb, hkl⟩ := ctz_bits y h hy
    have hb1 := hyb (Lib.ctz 32 y)
    rw [hkb] at hb1
    simp at hb1
    obtain ⟨⟨h1, h2⟩, h3⟩ := hb1
    have h0 : x ≠ 0 := by
      intro h0; subst h0; simp at h1
    rw [if_neg h0]
    rw [turnI_of x a (Lib.ctz 32 y - a) (Lib.ctz 32 y) (by omega) h1 32 1 (by omega) (by omega) ?_]
    intro i' h4 h5
    rw [Nat.mod_eq_of_lt (by omega)]
    have h6 := hkl (a + i') (by omega)
    have := hyb (a + i')
    rw [h6] at this
    simpa [show 0 < i' by omega, show a + i' < 32 by omega] using this.symm
theorem mNext_no (x : Nat) (a : Int) (hx : Set32 x) (h : ¬ (0 ≤ a ∧ a < 32)) : members_Next.f (x : Int) a = some (0, false) := by
  unfold members_Next.f
  rw [mWithout_eq x a hx, Option.bind_some, mTurn_no _ _ h]; rfl
theorem mNext_eq (x a : Nat) (hx : Set32 x) (ha : a < 32) : members_Next.f (x : Int) (a : Int) = some (turnR (withoutN x (a : Int)) a) := by
  unfold members_Next.f
  rw [mWithout_eq x a hx, Option.bind_some, mTurn_eq _ _ (withoutN_lt _ _) ha]; rfl
theorem mPrev_no (x a : Int) (h : ¬ (0 ≤ a ∧ a < 32)) : members_Prev.f x a = some (0, false) := by
  unfold members_Prev.f
  rw [is_eq, Option.bind_some, decide_eq_false h]; rfl
def prevR (x a : Nat) : Int × Bool := if withoutN x (a : Int) = 0 then (0, false) else (prevI x a 1 31, true)
theorem mPrev_eq (x a : Nat) (hx : Set32 x) (ha : a < 32) : members_Prev.f (x : Int) (a : Int) = some (prevR x a) := by
  have hw : Set32 (withoutN x (a : Int)) := withoutN_lt _ _
  have hwb : ∀ i, i < 32 → (withoutN x (a : Int)).testBit i = (x.testBit i && !decide (i = a)) := by
    intro i hi
    rw [withoutN_bit _ _ _ hi, Bool.eq_iff_iff]
    simp
    omega
  have hv : Set32 (withoutN x (a : Int) &&& belowN a) := and_lt _ _ (belowN_lt a ha)
  have hvb : ∀ i, i < 32 → (withoutN x (a : Int) &&& belowN a).testBit i = (x.testBit i && decide (i < a)) := by
    intro i hi
    rw [Nat.testBit_and, hwb i hi, belowN_bit, Bool.eq_iff_iff]
    simp
    omega
  unfold members_Prev.f
  rw [is_eq, Option.bind_some, decide_eq_true (by omega), if_pos rfl, mWithout_eq x a hx, Option.bind_some, below_any a ha, Option.bind_some, and_u32 _ _ hw (belowN_lt a ha)]
  unfold prevR
  generalize withoutN x (a : Int) &&& belowN a = v at *
  generalize withoutN x (a : Int) = z at *
  by_cases h : v = 0
  · subst h
    rw [show ((0 : Nat) : Int) = 0 from rfl, last_none, Option.bind_some]
    simp only [Bool.false_eq_true, if_false]
    have hlow : ∀ i, i < a → x.testBit i = false := by
      intro i hi
      have := hvb i (by omega)
      rw [Nat.zero_testBit] at this
      simpa [hi] using this.symm
    by_cases h0 : z = 0
    · subst h0
      rw [if_pos rfl]; rfl
    · rw [if_neg h0]
      obtain ⟨k, hk, h1, h2, h3⟩ := last_eq z hw h0
      have hk2 := hwb k hk
      rw [h2] at hk2
      simp at hk2
      have hka : a < k := by
        rcases Nat.lt_or_ge k a with h4 | h4
        · have := hlow k h4; rw [hk2.1] at this; cases this
        · omega
      rw [h1, Option.bind_some, prevI_of x a (a + 32 - k) k (by omega) hk2.1 31 1 (by omega) (by omega) ?_]
      intro i' h4 h5
      by_cases h6 : i' ≤ a
      · rw [show (a + 32 - i') % 32 = a - i' by omega]
        exact hlow _ (by omega)
      · rw [Nat.mod_eq_of_lt (by omega)]
        have h7 := h3 (a + 32 - i') (by omega)
        rw [hwb _ (by omega)] at h7
        simpa [show ¬ (a + 32 - i' = a) by omega] using h7
  · obtain ⟨k, hk, h1, h2, h3⟩ := last_eq v hv h
    have hk2 := hvb k hk
    rw [h2] at hk2
    simp at hk2
    have h0 : z ≠ 0 := by
      intro h0
      have := hwb k hk
      rw [h0, Nat.zero_testBit, hk2.1] at this
      simp at this
      omega
    rw [h1, Option.bind_some, if_neg h0]
    simp only [if_true]
    rw [prevI_of x a (a - k) k (by omega) hk2.1 31 1 (by omega) (by omega) ?_]
    intro i' h4 h5
    rw [show (a + 32 - i') % 32 = a - i' by omega]
    have h6 := h3 (a - i') (by omega)
    rw [hvb _ (by omega)] at h6
    simpa [show a - i' < a by omega] using h6
end Go.Proofs.YtmehafolnpkmhaaDoor.PMem
