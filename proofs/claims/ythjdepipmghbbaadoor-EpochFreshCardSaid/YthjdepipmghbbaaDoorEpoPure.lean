/- Epochs (plain): which is the greater one, texts, the law of orders. -/
import Derived.Test.YthjdepipmghbbaaDoorPEpqx
namespace Go.Proofs.YthjdepipmghbbaaDoor.PEpq
open Go.RowKit Go.Proofs.YthjdepipmghbbaaDoorW.PrintWords Go.Proofs.YthjdepipmghbbaaDoorW.PrintLast
/-- A number of 16, of 8 bits. -/
abbrev In16 (n : Int) : Prop := 0 ≤ n ∧ n ≤ 65535
abbrev In8 (n : Int) : Prop := 0 ≤ n ∧ n ≤ 255
def numN (c a i : Int) : Int := (c * 256 + a) * 65536 + i
def markN (c a i h : Int) : Int := numN c a i * 65536 + h
def sgn (x y : Int) : Int := if x < y then -1 else if x > y then 1 else 0
theorem sign_eq (x y : Int) : fuglemanlaw03_sign.f x y = some (sgn x y) := by
  unfold fuglemanlaw03_sign.f sgn
  split
  · rfl
  · split <;> rfl
theorem cmp16_eq (x y : Int) : cmp_Compare_uint16.f x y = some (sgn x y) := by
  unfold cmp_Compare_uint16.f cmp_isNaN_uint16.f sgn
  simp only [Option.bind_some, bne_self_eq_false, Bool.false_eq_true, if_false]
  split
  · rfl
  · split <;> rfl
theorem cmp8_eq (x y : Int) : cmp_Compare_uint8.f x y = some (sgn x y) := by
  unfold cmp_Compare_uint8.f cmp_isNaN_uint8.f sgn
  simp only [Option.bind_some, bne_self_eq_false, Bool.false_eq_true, if_false]
  split
  · rfl
  · split <;> rfl
def orL : List Int → Int
  | [] => 0
  | x :: r => if x = 0 then orL r else x
theorem rd_pre (pre rest : List Int) (n : Int) : rd (pre ++ n :: rest) (pre.length : Int) = n := by
  unfold rd
  rw [Int.toNat_natCast]
  simp
theorem w64i (n : Int) (h1 : -9223372036854775808 ≤ n) (h2 : n ≤ 9223372036854775807) : wrap64 n = n := by unfold wrap64; omega
theorem or_loop : ∀ (rest pre : List Int) (k : Nat), rest.length < k → (pre ++ rest).length ≤ 100 → cmp_Or_int.l0 k 0 (pre ++ rest) ((pre ++ rest).length : Int) (pre.length : Int) = some (orL rest)
  | [], pre, k, hk, _ => by
    obtain ⟨k, rfl⟩ : ∃ m, k = m + 1 := ⟨k - 1, by omega⟩
    simp only [cmp_Or_int.l0]
    rw [if_neg (by simp)]; rfl
  | x :: rest, pre, k, hk, hl => by
    obtain ⟨k, rfl⟩ : ∃ m, k = m + 1 := ⟨k - 1, by omega⟩
    have e : pre ++ x :: rest = (pre ++ [x]) ++ rest := by simp
    have e2 : wrap64 ((pre.length : Int) + 1) = ((pre ++ [x]).length : Int) := by
      simp at hl
      rw [w64i _ (by omega) (by omega)]; simp
    simp only [List.length_cons] at hk
    simp only [cmp_Or_int.l0]
    rw [if_pos (by simp; omega), if_pos (by omega), if_pos (by simp; omega), rd_pre, e2, e]
    unfold orL
    split
    · exact or_loop rest (pre ++ [x]) k (by omega) (by rw [← e]; exact hl)
    · rfl
theorem or3 (k : Nat) (x y z : Int) : cmp_Or_int.f (k + 4) [x, y, z] = some (if x = 0 then (if y = 0 then z else y) else x) := by
  have := or_loop [x, y, z] [] (k + 4) (by simp) (by simp)
  refine (show _ = _ from this).trans ?_
  congr 1
  simp only [orL]
  split
  · split
    · split <;> omega
    · rfl
  · rfl
theorem or2 (k : Nat) (x y : Int) : cmp_Or_int.f (k + 4) [x, y] = some (if x = 0 then y else x) := by
  have := or_loop [x, y] [] (k + 4) (by simp <;> omega) (by simp)
  refine (show _ = _ from this).trans ?_
  congr 1
  simp only [orL]
  split
  · split <;> omega
  · rfl
theorem sgn_lex (c a i d b j : Int) (hc : In16 c) (ha : In8 a) (hi : In16 i) (hd : In16 d) (hb : In8 b) (hj : In16 j) :
    (if sgn c d = 0 then (if sgn a b = 0 then sgn i j else sgn a b) else sgn c d) = sgn (numN c a i) (numN d b j) := by
  unfold sgn numN
  rcases Int.lt_trichotomy c d with h | h | h
  · rw [if_pos h, if_neg (by decide), if_pos (by omega)]
  · subst h
    rw [if_neg (by omega : ¬ c < c), if_neg (by omega : ¬ c > c), if_pos rfl]
    rcases Int.lt_trichotomy a b with h | h | h
    · rw [if_pos h, if_neg (by decide), if_pos (by omega)]
    · subst h
      rw [if_neg (by omega : ¬ a < a), if_neg (by omega : ¬ a > a), if_pos rfl]
      rcases Int.lt_trichotomy i j with h | h | h
      · rw [if_pos h, if_pos (by omega)]
      · subst h
        rw [if_neg (by omega), if_neg (by omega), if_neg (by omega), if_neg (by omega)]
      · rw [if_neg (by omega), if_pos h, if_neg (by omega), if_pos (by omega)]
    · rw [if_neg (by omega : ¬ a < b), if_pos h, if_neg (by decide : ¬ (1 : Int) = 0), if_neg (by omega), if_pos (by omega)]
  · rw [if_neg (by omega : ¬ c < d), if_pos h, if_neg (by decide : ¬ (1 : Int) = 0), if_neg (by omega), if_pos (by omega)]
theorem compare_eq (k : Nat) (c a i d b j : Int) (hc : In16 c) (ha : In8 a) (hi : In16 i) (hd : In16 d) (hb : In8 b) (hj : In16 j) :
    epoch_Compare.f (k + 4) c a i d b j = some (sgn (numN c a i) (numN d b j)) := by
  unfold epoch_Compare.f
  rw [cmp16_eq, Option.bind_some, cmp8_eq, Option.bind_some, cmp16_eq, Option.bind_some, or3, Option.bind_some, sgn_lex c a i d b j hc ha hi hd hb hj]
theorem wrap_u64n (n : Int) (h0 : 0 ≤ n) (h1 : n < 18446744073709551616) : IntKind.u64.wrap n = n := by
  have : IntKind.u64.wrap n = n % 18446744073709551616 := by simp [IntKind.wrap, IntKind.bits, IntKind.signed]
  rw [this, Int.emod_eq_of_lt h0 h1]
theorem number_eq (c a i : Int) (hc : In16 c) (ha : In8 a) (hi : In16 i) : fuglemanref03_Number.f c a i = some (numN c a i) := by
  unfold fuglemanref03_Number.f numN
  rw [wrap_u64n c (by omega) (by omega), wrap_u64n (c * 256) (by omega) (by omega), wrap_u64n a (by omega) (by omega), wrap_u64n (c * 256 + a) (by omega) (by omega), wrap_u64n ((c * 256 + a) * 65536) (by omega) (by omega), wrap_u64n i (by omega) (by omega), wrap_u64n _ (by omega) (by omega)]
theorem mark_eq (c a i h : Int) (hc : In16 c) (ha : In8 a) (hi : In16 i) (hh : In16 h) : fuglemanref03_Mark.f c a i h = some (markN c a i h) := by
  unfold fuglemanref03_Mark.f
  rw [number_eq c a i hc ha hi, Option.bind_some]
  unfold markN numN
  rw [wrap_u64n (((c * 256 + a) * 65536 + i) * 65536) (by omega) (by omega), wrap_u64n h (by omega) (by omega), wrap_u64n _ (by omega) (by omega)]
theorem newer_eq (k : Nat) (c a i h d b j g : Int) (hc : In16 c) (ha : In8 a) (hi : In16 i) (hh : In16 h) (hd : In16 d) (hb : In8 b) (hj : In16 j) (hg : In16 g) :
    epoch_Newer.f (k + 4) c a i h d b j g = some (decide (markN c a i h > markN d b j g)) := by
  unfold epoch_Newer.f
  rw [compare_eq k c a i d b j hc ha hi hd hb hj, Option.bind_some, cmp16_eq, Option.bind_some, or2, Option.bind_some]
  congr 1
  rw [decide_eq_decide]
  unfold sgn markN
  generalize numN c a i = x
  generalize numN d b j = y
  rcases Int.lt_trichotomy x y with h1 | h1 | h1
  · rw [if_pos h1, if_neg (by decide)]; omega
  · subst h1
    rw [if_neg (by omega : ¬ x < x), if_neg (by omega : ¬ x > x), if_pos rfl]
    split
    · omega
    · split <;> omega
  · rw [if_neg (by omega : ¬ x < y), if_pos h1, if_neg (by decide : ¬ (1 : Int) = 0)]; omega
theorem max_eq (k : Nat) (c a i d b j : Int) (hc : In16 c) (ha : In8 a) (hi : In16 i) (hd : In16 d) (hb : In8 b) (hj : In16 j) :
    epoch_Max.f (k + 4) c a i d b j = some (if numN c a i < numN d b j then (d, b, j) else (c, a, i)) := by
  unfold epoch_Max.f
  rw [compare_eq k c a i d b j hc ha hi hd hb hj, Option.bind_some]
  unfold sgn
  by_cases h : numN c a i < numN d b j
  · rw [if_pos h, if_pos (by decide), if_pos h]
  · rw [if_neg h, if_neg h]
    by_cases h2 : numN c a i > numN d b j
    · rw [if_pos h2, if_neg (by decide)]
    · rw [if_neg h2, if_neg (by decide)]
/-! ### Texts -/
/-- The digits of a number. -/
def it (n : Int) : ByteArray := ⟨(Lib.itoa n).toArray⟩
theorem it_nat (n : Nat) : it (n : Int) = ⟨(Lib.decDigits n).toArray⟩ := by
  unfold it Lib.itoa
  rw [if_neg (by omega), Int.toNat_natCast]
theorem dec_len : ∀ (k n : Nat), n < 10 ^ (k + 1) → (Lib.decDigits n).length ≤ k + 1
  | 0, n, h => by rw [Lib.decDigits_one (by omega)]; exact Nat.le_refl _
  | k + 1, n, h => by
    rw [Lib.decDigits]
    split
    · simp
    · rw [List.length_append]
      have := dec_len k (n / 10) (by rw [Nat.pow_succ] at h; omega)
      simp
      omega
theorem it_size (n : Int) (h0 : 0 ≤ n) (h1 : n ≤ 65535) : (it n).size ≤ 5 := by
  obtain ⟨m, rfl⟩ := Int.eq_ofNat_of_zero_le h0
  rw [it_nat]
  have := dec_len 4 m (by omega)
  exact this
theorem app_assoc (l m : List UInt8) (s : ByteArray) : (⟨l.toArray⟩ : ByteArray) ++ ((⟨m.toArray⟩ : ByteArray) ++ s) = (⟨(l ++ m).toArray⟩ : ByteArray) ++ s := by
  rw [← ByteArray.append_assoc]
  congr 1
theorem digits_loop : ∀ (d k n : Nat) (s : ByteArray), n < 10 ^ (d + 1) → n ≤ 65535 → d < k → s.size + d ≤ 100 → fuglemanref03_Digits.l0 k (n : Int) s = some ((⟨(Lib.decDigits n).toArray⟩ : ByteArray) ++ s)
  | 0, k, n, s, hn, hm, hk, hs => by
    obtain ⟨k, rfl⟩ : ∃ m, k = m + 1 := ⟨k - 1, by omega⟩
    have hn : n < 10 := by omega
    simp only [fuglemanref03_Digits.l0]
    have e : strOfNums [(wrap64 (48 + (n : Int))) % 256] = ⟨(Lib.decDigits n).toArray⟩ := by
      rw [Lib.decDigits_one hn]
      have : wrap64 (48 + (n : Int)) % 256 = ((48 + n : Nat) : Int) := by unfold wrap64; omega
      rw [this]; rfl
    rw [if_neg (by omega), Option.bind_some, if_pos (by rw [strOfNums_size]; simp; omega), e]
  | d + 1, k, n, s, hn, hm, hk, hs => by
    obtain ⟨k, rfl⟩ : ∃ m, k = m + 1 := ⟨k - 1, by omega⟩
    by_cases h10 : n < 10
    · exact digits_loop 0 (k + 1) n s (by omega) hm (by omega) (by omega)
    · simp only [fuglemanref03_Digits.l0]
      have e : strOfNums [(wrap64 (48 + (Int.tmod (n : Int) 10))) % 256] = ⟨[UInt8.ofNat (48 + n % 10)].toArray⟩ := by
        have h1 : Int.tmod (n : Int) 10 = ((n % 10 : Nat) : Int) := rfl
        have : wrap64 (48 + ((n % 10 : Nat) : Int)) % 256 = ((48 + n % 10 : Nat) : Int) := by unfold wrap64; omega
        rw [h1, this]; rfl
      have e2 : wrap64 (Int.tdiv (n : Int) 10) = ((n / 10 : Nat) : Int) := by
        have h1 : Int.tdiv (n : Int) 10 = ((n / 10 : Nat) : Int) := rfl
        rw [h1]; unfold wrap64; omega
      rw [if_pos (by omega), Option.bind_some, if_pos (by rw [strOfNums_size]; simp; omega), e, e2, digits_loop d k (n / 10) _ (by rw [Nat.pow_succ] at hn; omega) (by omega) (by omega) (by rw [ByteArray.size_append]; have : (⟨[UInt8.ofNat (48 + n % 10)].toArray⟩ : ByteArray).size = 1 := rfl; omega)]
      rw [app_assoc]
      congr 2
      conv => rhs; rw [Lib.decDigits, dif_neg h10]
theorem digits_eq (n : Int) (k : Nat) (h0 : 0 ≤ n) (h1 : n ≤ 65535) : fuglemanref03_Digits.f (k + 6) n = some (it n) := by
  obtain ⟨m, rfl⟩ := Int.eq_ofNat_of_zero_le h0
  unfold fuglemanref03_Digits.f
  rw [digits_loop 5 (k + 6) m _ (by omega) (by omega) (by omega) (by decide), it_nat]
  congr 1
  apply ByteArray.ext
  rw [ByteArray.data_append]
  simp
theorem itoa_f (n : Int) (h0 : 0 ≤ n) (h1 : n ≤ 65535) : strconv_Itoa_26.f n = some (it n) := by
  unfold strconv_Itoa_26.f
  rw [if_pos (by omega)]; rfl
/-- The text of an epoch. -/
def txt (c a i : Int) : ByteArray := (((it c ++ (⟨#[46]⟩ : ByteArray)) ++ it a) ++ (⟨#[46]⟩ : ByteArray)) ++ it i
theorem w64n (n : Int) (h0 : 0 ≤ n) (h1 : n ≤ 65535) : wrap64 n = n := by unfold wrap64; omega
theorem text_eq (c a i : Int) (hc : In16 c) (ha : In8 a) (hi : In16 i) : epoch_Text.f c a i = some (txt c a i) := by
  have s1 := it_size c hc.1 hc.2
  have s2 := it_size a ha.1 (by omega)
  have s3 := it_size i hi.1 hi.2
  have hp : (⟨#[46]⟩ : ByteArray).size = 1 := rfl
  unfold epoch_Text.f
  rw [w64n c hc.1 hc.2, w64n a ha.1 (by omega), w64n i hi.1 hi.2, itoa_f c hc.1 hc.2, Option.bind_some, if_pos (by omega), itoa_f a ha.1 (by omega), Option.bind_some, if_pos (by simp only [ByteArray.size_append]; omega), if_pos (by simp only [ByteArray.size_append]; omega),
    itoa_f i hi.1 hi.2, Option.bind_some, if_pos (by simp only [ByteArray.size_append]; omega)]
  rfl
theorem rtext_eq (c a i : Int) (k : Nat) (hc : In16 c) (ha : In8 a) (hi : In16 i) : fuglemanref03_Text.f (k + 6) c a i = some (txt c a i) := by
  have s1 := it_size c hc.1 hc.2
  have s2 := it_size a ha.1 (by omega)
  have s3 := it_size i hi.1 hi.2
  have hp : (⟨#[46]⟩ : ByteArray).size = 1 := rfl
  unfold fuglemanref03_Text.f
  rw [w64n c hc.1 hc.2, w64n a ha.1 (by omega), w64n i hi.1 hi.2, digits_eq c k hc.1 hc.2, Option.bind_some, if_pos (by omega), digits_eq a k ha.1 (by omega), Option.bind_some, if_pos (by simp only [ByteArray.size_append]; omega), if_pos (by simp only [ByteArray.size_append]; omega),
    digits_eq i k hi.1 hi.2, Option.bind_some, if_pos (by simp only [ByteArray.size_append]; omega)]
  rfl
/-! ### awake -/
theorem awake_parts : partsOf (⟨#[56, 46, 50, 46, 52]⟩ : ByteArray) = [⟨#[56]⟩, ⟨#[50]⟩, ⟨#[52]⟩] := by decide +kernel
theorem text_same (c a i : Int) : PEpo.epoch_Text.f c a i = epoch_Text.f c a i := rfl
theorem it_one (n : Nat) (h : n < 10) : it (n : Int) = ⟨#[UInt8.ofNat (48 + n)]⟩ := by rw [it_nat, Lib.decDigits_one h]
theorem awake_txt : txt 8 2 4 = (⟨#[56, 46, 50, 46, 52]⟩ : ByteArray) := by
  have h8 := it_one 8 (by decide)
  have h2 := it_one 2 (by decide)
  have h4 := it_one 4 (by decide)
  unfold txt
  rw [show (8 : Int) = ((8 : Nat) : Int) from rfl, show (2 : Int) = ((2 : Nat) : Int) from rfl, show (4 : Int) = ((4 : Nat) : Int) from rfl, h8, h2, h4]
  decide +kernel
theorem awake_read : epoch_Read.f (⟨#[56, 46, 50, 46, 52]⟩ : ByteArray) = some (8, 2, 4, true) := by
  have n1 : numOf 16 (⟨#[56]⟩ : ByteArray) = some 8 := by decide +kernel
  have n2 : numOf 8 (⟨#[50]⟩ : ByteArray) = some 2 := by decide +kernel
  have n3 : numOf 16 (⟨#[52]⟩ : ByteArray) = some 4 := by decide +kernel
  have ht := text_eq 8 2 4 (by decide) (by decide) (by decide)
  show readF _ = _
  unfold readF
  rw [if_pos (by decide), awake_parts]
  simp only [n1, n2, n3]
  rw [text_same]
  refine (congrArg (fun x => Option.bind x _) ht).trans ?_
  rw [Option.bind_some, awake_txt, if_pos rfl]
  rfl
theorem awake_eq (k : Nat) : fuglemanlaw03_awake.f (k + 10) = some true := by
  have hm : epoch_Mint.f 7 3 1 2 4 100 = some (8, 2, 4, true) := by decide +kernel
  have hh : epoch_Hop.f 8 2 4 1 = some (8, 2, 4, 2, true) := by decide +kernel
  have hc := compare_eq (k + 6) 8 2 4 0 0 0 (by decide) (by decide) (by decide) (by decide) (by decide) (by decide)
  have hs : sgn (numN 8 2 4) (numN 0 0 0) = 1 := by decide
  rw [hs] at hc
  have ht := text_eq 8 2 4 (by decide) (by decide) (by decide)
  unfold fuglemanlaw03_awake.f
  rw [hm, Option.bind_some, awake_read, Option.bind_some, hh, Option.bind_some, if_pos rfl, if_pos rfl, if_pos rfl, if_pos (by decide), if_pos rfl, hc, Option.bind_some, if_pos rfl, ht, Option.bind_some, awake_txt]
  decide +kernel
theorem orders_law (k : Nat) (c a i h d b j g : Int) (hc : In16 c) (ha : In8 a) (hi : In16 i) (hh : In16 h) (hd : In16 d) (hb : In8 b) (hj : In16 j) (hg : In16 g) :
    fuglemanlaw03_EpochOrders.f (k + 11) c a i h d b j g = some true := by
  unfold fuglemanlaw03_EpochOrders.f
  rw [awake_eq (k + 1), Option.bind_some, if_pos rfl, number_eq c a i hc ha hi, Option.bind_some, number_eq d b j hd hb hj, Option.bind_some]
  have e1 := compare_eq (k + 6) c a i d b j hc ha hi hd hb hj
  have e2 := max_eq (k + 6) c a i d b j hc ha hi hd hb hj
  have e3 := newer_eq (k + 6) c a i h d b j g hc ha hi hh hd hb hj hg
  have e4 := rtext_eq c a i (k + 4) hc ha hi
  split
  · next hlt =>
    rw [if_pos (by omega)] at e2
    simp only [fuglemanlaw03_EpochOrders.j0]
    rw [e1, Option.bind_some, sign_eq, Option.bind_some, if_pos rfl, e2, Option.bind_some, if_pos (by simp), e3, Option.bind_some, mark_eq c a i h hc ha hi hh, Option.bind_some, mark_eq d b j g hd hb hj hg, Option.bind_some, if_pos (by simp), text_eq c a i hc ha hi, Option.bind_some, e4, Option.bind_some]
    simp
  · next hlt =>
    rw [if_neg (by omega)] at e2
    simp only [fuglemanlaw03_EpochOrders.j0]
    rw [e1, Option.bind_some, sign_eq, Option.bind_some, if_pos rfl, e2, Option.bind_some, if_pos (by simp), e3, Option.bind_some, mark_eq c a i h hc ha hi hh, Option.bind_some, mark_eq d b j g hd hb hj hg, Option.bind_some, if_pos (by simp), text_eq c a i hc ha hi, Option.bind_some, e4, Option.bind_some]
    simp
end Go.Proofs.YthjdepipmghbbaaDoor.PEpq
