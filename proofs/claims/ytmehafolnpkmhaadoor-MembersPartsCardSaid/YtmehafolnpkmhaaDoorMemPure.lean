/- Members (plain): sets as bits. -/
import Derived.Test.YtmehafolnpkmhaaDoorPMemx
import Derived.Test.YtmehafolnpkmhaaDoorMemBits
namespace Go.Proofs.YtmehafolnpkmhaaDoor.PMem
open Go.RowKit Go.Proofs.YtmehafolnpkmhaaDoorW.PrintWords Go.Proofs.YtmehafolnpkmhaaDoorW.PrintLast
set_option maxRecDepth 100000 in
theorem awake_eq : fuglemanlaw05_awake.f 100 = some true := by decide +kernel
theorem u32_bits (a b : Nat) (ha : a < 4294967296) (hb : b < 4294967296) : bits .or .u32 (a : Int) (b : Int) = ((a ||| b : Nat) : Int) ∧ bits .xor .u32 (a : Int) (b : Int) = ((a ^^^ b : Nat) : Int) := by
  have h1 : (BitVec.ofInt 32 (a : Int)).toNat = a := by
    rw [BitVec.ofInt_natCast, BitVec.toNat_ofNat]; exact Nat.mod_eq_of_lt (by omega)
  have h2 : (BitVec.ofInt 32 (b : Int)).toNat = b := by
    rw [BitVec.ofInt_natCast, BitVec.toNat_ofNat]; exact Nat.mod_eq_of_lt (by omega)
  constructor
  · have hx : a ||| b < 2 ^ 32 := Nat.or_lt_two_pow (by omega) (by omega)
    show IntKind.u32.wrap ((BitVec.ofInt 32 (a : Int) ||| BitVec.ofInt 32 (b : Int)).toNat : Int) = _
    rw [BitVec.toNat_or, h1, h2, IntKind.wrap_u32']
    omega
  · have hx : a ^^^ b < 2 ^ 32 := Nat.xor_lt_two_pow (by omega) (by omega)
    show IntKind.u32.wrap ((BitVec.ofInt 32 (a : Int) ^^^ BitVec.ofInt 32 (b : Int)).toNat : Int) = _
    rw [BitVec.toNat_xor, h1, h2, IntKind.wrap_u32']
    omega
theorem one_eq (n : Nat) (h : n < 32) : members_one.f (n : Int) = some ((2 ^ n : Nat) : Int) := by
  have : ∀ k : Fin 32, members_one.f ((k.val : Nat) : Int) = some ((2 ^ k.val : Nat) : Int) := by decide +kernel
  exact this ⟨n, h⟩
theorem below_eq (n : Nat) (h : n < 32) : members_below.f (n : Int) = some ((2 ^ n - 1 : Nat) : Int) := by
  have : ∀ k : Fin 32, members_below.f ((k.val : Nat) : Int) = some ((2 ^ k.val - 1 : Nat) : Int) := by decide +kernel
  exact this ⟨n, h⟩
/-! ### The document's -/
theorem has_loop : ∀ (d k i : Nat) (x n : Nat), d = n - i → i ≤ n → n < 32 → x < 4294967296 → d < k → fuglemanref05_Has.l0 k (x : Int) (n : Int) (i : Int) = some (x.testBit d)
  | 0, k, i, x, n, hd, hi, hn, hx, hk => by
    obtain ⟨k, rfl⟩ : ∃ m, k = m + 1 := ⟨k - 1, by omega⟩
    simp only [fuglemanref05_Has.l0]
    rw [if_neg (by omega)]
    congr 1
    rw [Nat.testBit_zero]
    have : Int.tmod (x : Int) 2 = ((x % 2 : Nat) : Int) := rfl
    rw [this, Bool.eq_iff_iff]
    simp
    omega
  | d + 1, k, i, x, n, hd, hi, hn, hx, hk => by
    obtain ⟨k, rfl⟩ : ∃ m, k = m + 1 := ⟨k - 1, by omega⟩
    simp only [fuglemanref05_Has.l0]
    rw [if_pos (by omega)]
    have h1 : Int.tdiv (x : Int) 2 % 4294967296 = ((x / 2 : Nat) : Int) := by
      have : Int.tdiv (x : Int) 2 = ((x / 2 : Nat) : Int) := rfl
      rw [this]
      omega
    have h2 : wrap64 ((i : Int) + 1) = ((i + 1 : Nat) : Int) := by unfold wrap64; omega
    rw [h1, h2, has_loop d k (i + 1) (x / 2) n (by omega) (by omega) hn (by omega) (by omega), Nat.testBit_succ]
theorem has_eq (x n k : Nat) (hx : x < 4294967296) (hn : n < 32) (hk : n + 2 < k) : fuglemanref05_Has.f k (x : Int) (n : Int) = some (x.testBit n) := by
  obtain ⟨k, rfl⟩ : ∃ m, k = m + 1 := ⟨k - 1, by omega⟩
  unfold fuglemanref05_Has.f
  rw [if_neg (by omega)]
  simp only [fuglemanref05_Has.j0]
  rw [if_neg (by simp; omega)]
  exact has_loop n k 0 x n (by omega) (by omega) hn hx (by omega)
theorem has_no (x a : Int) (k : Nat) (ha : a < 0 ∨ 31 < a) (hk : 0 < k) : fuglemanref05_Has.f k x a = some false := by
  obtain ⟨k, rfl⟩ : ∃ m, k = m + 1 := ⟨k - 1, by omega⟩
  unfold fuglemanref05_Has.f
  split
  · simp [fuglemanref05_Has.j0]
  · simp only [fuglemanref05_Has.j0]
    rw [if_pos (by simp; omega)]
theorem with_loop (x : Int) (n : Nat) (hn : n < 32) : ∀ (d k i : Nat), d = n - i → i ≤ n → d < k → fuglemanref05_With.l0 k x (n : Int) ((2 ^ i : Nat) : Int) (i : Int) = some ((x + ((2 ^ n : Nat) : Int)) % 4294967296)
  | 0, k, i, hd, hi, hk => by
    obtain ⟨k, rfl⟩ : ∃ m, k = m + 1 := ⟨k - 1, by omega⟩
    obtain rfl : i = n := by omega
    simp only [fuglemanref05_With.l0]
    rw [if_neg (by omega)]
  | d + 1, k, i, hd, hi, hk => by
    obtain ⟨k, rfl⟩ : ∃ m, k = m + 1 := ⟨k - 1, by omega⟩
    simp only [fuglemanref05_With.l0]
    rw [if_pos (by omega)]
    have hp : 2 ^ (i + 1) ≤ 2 ^ 31 := Nat.pow_le_pow_right (by decide) (by omega)
    have h1 : ((2 ^ i : Nat) : Int) * 2 % 4294967296 = ((2 ^ (i + 1) : Nat) : Int) := by
      rw [Nat.pow_succ] at hp ⊢
      omega
    have h2 : wrap64 ((i : Int) + 1) = ((i + 1 : Nat) : Int) := by unfold wrap64; omega
    rw [h1, h2, with_loop x n hn d k (i + 1) (by omega) (by omega) (by omega)]
theorem or_add (x n : Nat) (hx : x < 4294967296) (hn : n < 32) (h : x.testBit n = false) : x + 2 ^ n = x ||| 2 ^ n := by
  have hp : 2 ^ n ≤ 2 ^ 31 := Nat.pow_le_pow_right (by decide) (by omega)
  have ho : x ||| 2 ^ n < 2 ^ 32 := Nat.or_lt_two_pow (by omega) (by omega)
  have hz : BitVec.ofNat 40 x &&& BitVec.ofNat 40 (2 ^ n) = 0#40 := by
    apply BitVec.eq_of_toNat_eq
    rw [BitVec.toNat_and, BitVec.toNat_ofNat, BitVec.toNat_ofNat, Nat.mod_eq_of_lt (by omega), Nat.mod_eq_of_lt (by omega)]
    apply Nat.eq_of_testBit_eq
    intro i
    rw [Nat.testBit_and, Nat.testBit_two_pow]
    by_cases hi : n = i
    · subst hi; simp [h]
    · simp [hi]
  have := congrArg BitVec.toNat (BitVec.add_eq_or_of_and_eq_zero _ _ hz)
  have e1 : x % 2 ^ 40 = x := Nat.mod_eq_of_lt (by omega)
  have e2 : 2 ^ n % 2 ^ 40 = 2 ^ n := Nat.mod_eq_of_lt (by omega)
  have e3 : (x + 2 ^ n) % 2 ^ 40 = x + 2 ^ n := Nat.mod_eq_of_lt (by omega)
  rw [BitVec.toNat_add, BitVec.toNat_or, BitVec.toNat_ofNat, BitVec.toNat_ofNat, e1, e2, e3] at this
  exact this
theorem or_same (x n : Nat) (h : x.testBit n = true) : x ||| 2 ^ n = x := by
  apply Nat.eq_of_testBit_eq
  intro i
  rw [Nat.testBit_or, Nat.testBit_two_pow]
  by_cases hi : n = i
  · subst hi; simp [h]
  · simp [hi]
theorem or_bd (x n : Nat) (hx : x < 4294967296) (hn : n < 32) : x ||| 2 ^ n < 4294967296 := by
  have hp : 2 ^ n ≤ 2 ^ 31 := Nat.pow_le_pow_right (by decide) (by omega)
  have ho : x ||| 2 ^ n < 2 ^ 32 := Nat.or_lt_two_pow (by omega) (by omega)
  omega
theorem with_eq (x n k : Nat) (hx : x < 4294967296) (hn : n < 32) (hk : n + 3 < k) : fuglemanref05_With.f k (x : Int) (n : Int) = some ((x ||| 2 ^ n : Nat) : Int) := by
  unfold fuglemanref05_With.f
  rw [if_neg (by omega), if_neg (by omega), has_eq x n k hx hn (by omega), Option.bind_some]
  obtain ⟨k, rfl⟩ : ∃ m, k = m + 1 := ⟨k - 1, by omega⟩
  simp only [fuglemanref05_With.j0]
  by_cases h : x.testBit n = true
  · rw [if_pos h, or_same x n h]
  · have hf : x.testBit n = false := by simpa using h
    rw [if_neg h]
    have hl := with_loop (x : Int) n hn n k 0 (by omega) (by omega) (by omega)
    refine (show _ = _ from hl).trans ?_
    rw [← or_add x n hx hn hf]
    have := or_bd x n hx hn
    rw [← or_add x n hx hn hf] at this
    congr 1
    clear hl
    generalize 2 ^ n = y at *
    omega
theorem list_loop (x : Nat) (hx : x < 4294967296) : ∀ (d k i : Nat) (acc : List Int), i + d = 32 → d + 36 < k → acc.length ≤ i → fuglemanref05_List.l0 k (x : Int) acc (i : Int) = some (acc ++ elems x i d)
  | 0, k, i, acc, hd, hk, ha => by
    obtain ⟨k, rfl⟩ : ∃ m, k = m + 1 := ⟨k - 1, by omega⟩
    simp only [fuglemanref05_List.l0]
    rw [if_neg (by omega)]
    simp [elems]
  | d + 1, k, i, acc, hd, hk, ha => by
    obtain ⟨k, rfl⟩ : ∃ m, k = m + 1 := ⟨k - 1, by omega⟩
    have h2 : wrap64 ((i : Int) + 1) = ((i + 1 : Nat) : Int) := by unfold wrap64; omega
    simp only [fuglemanref05_List.l0]
    rw [if_pos (by omega), has_eq x i k hx (by omega) (by omega), Option.bind_some, h2]
    by_cases h : x.testBit i = true
    · rw [if_pos h, if_pos (by omega), list_loop x hx d k (i + 1) (acc ++ [(i : Int)]) (by omega) (by omega) (by simp; omega)]
      simp [elems, h]
    · rw [if_neg h, list_loop x hx d k (i + 1) acc (by omega) (by omega) (by omega)]
      simp [elems, h]
theorem list_eq (x k : Nat) (hx : x < 4294967296) (hk : 70 < k) : fuglemanref05_List.f k (x : Int) = some (elems x 0 32) := by
  unfold fuglemanref05_List.f
  exact list_loop x hx 32 k 0 [] (by omega) (by omega) (by simp)
theorem turn_loop (x a : Nat) (hx : x < 4294967296) (ha : a < 32) : ∀ (d k j : Nat), j + d = 33 → d + 40 < k → fuglemanref05_Turn.l0 k (x : Int) (a : Int) (j : Int) = some (turnI x a j d)
  | 0, k, j, hd, hk => by
    obtain ⟨k, rfl⟩ : ∃ m, k = m + 1 := ⟨k - 1, by omega⟩
    simp only [fuglemanref05_Turn.l0]
    rw [if_neg (by omega)]
    rfl
  | d + 1, k, j, hd, hk => by
    obtain ⟨k, rfl⟩ : ∃ m, k = m + 1 := ⟨k - 1, by omega⟩
    have h2 : wrap64 ((j : Int) + 1) = ((j + 1 : Nat) : Int) := by unfold wrap64; omega
    have h3 : Int.tmod (wrap64 ((a : Int) + (j : Int))) 32 = (((a + j) % 32 : Nat) : Int) := by
      have : wrap64 ((a : Int) + (j : Int)) = ((a + j : Nat) : Int) := by unfold wrap64; omega
      rw [this]
      rfl
    simp only [fuglemanref05_Turn.l0]
    rw [if_pos (by omega), h3, has_eq x _ k hx (Nat.mod_lt _ (by decide)) (by omega), Option.bind_some, h2]
    by_cases h : x.testBit ((a + j) % 32) = true
    · rw [if_pos h]; simp [turnI, h]
    · rw [if_neg h, turn_loop x a hx ha d k (j + 1) (by omega) (by omega)]; simp [turnI, h]
theorem turn_eq (x a k : Nat) (hx : x < 4294967296) (ha : a < 32) (hk : 80 < k) : fuglemanref05_Turn.f k (x : Int) (a : Int) = some (turnI x a 1 32) := by
  obtain ⟨k, rfl⟩ : ∃ m, k = m + 1 := ⟨k - 1, by omega⟩
  unfold fuglemanref05_Turn.f
  rw [if_neg (by omega)]
  simp only [fuglemanref05_Turn.j0]
  rw [if_neg (by simp; omega)]
  exact turn_loop x a hx ha 32 k 1 (by omega) (by omega)
theorem prev_loop (x a : Nat) (hx : x < 4294967296) (ha : a < 32) : ∀ (d k j : Nat), j + d = 32 → d + 40 < k → fuglemanref05_Prev.l0 k (x : Int) (a : Int) (j : Int) = some (prevI x a j d)
  | 0, k, j, hd, hk => by
    obtain ⟨k, rfl⟩ : ∃ m, k = m + 1 := ⟨k - 1, by omega⟩
    simp only [fuglemanref05_Prev.l0]
    rw [if_neg (by omega)]
    rfl
  | d + 1, k, j, hd, hk => by
    obtain ⟨k, rfl⟩ : ∃ m, k = m + 1 := ⟨k - 1, by omega⟩
    have h2 : wrap64 ((j : Int) + 1) = ((j + 1 : Nat) : Int) := by unfold wrap64; omega
    have h3 : Int.tmod (wrap64 (wrap64 ((a : Int) + 32) - (j : Int))) 32 = (((a + 32 - j) % 32 : Nat) : Int) := by
      have : wrap64 (wrap64 ((a : Int) + 32) - (j : Int)) = ((a + 32 - j : Nat) : Int) := by unfold wrap64; omega
      rw [this]
      rfl
    simp only [fuglemanref05_Prev.l0]
    rw [if_pos (by omega), h3, has_eq x _ k hx (Nat.mod_lt _ (by decide)) (by omega), Option.bind_some, h2]
    by_cases h : x.testBit ((a + 32 - j) % 32) = true
    · rw [if_pos h]; simp [prevI, h]
    · rw [if_neg h, prev_loop x a hx ha d k (j + 1) (by omega) (by omega)]; simp [prevI, h]
theorem prev_eq (x a k : Nat) (hx : x < 4294967296) (ha : a < 32) (hk : 80 < k) : fuglemanref05_Prev.f k (x : Int) (a : Int) = some (prevI x a 1 31) := by
  obtain ⟨k, rfl⟩ : ∃ m, k = m + 1 := ⟨k - 1, by omega⟩
  unfold fuglemanref05_Prev.f
  rw [if_neg (by omega)]
  simp only [fuglemanref05_Prev.j0]
  rw [if_neg (by simp; omega)]
  exact prev_loop x a hx ha 31 k 1 (by omega) (by omega)
end Go.Proofs.YtmehafolnpkmhaaDoor.PMem
