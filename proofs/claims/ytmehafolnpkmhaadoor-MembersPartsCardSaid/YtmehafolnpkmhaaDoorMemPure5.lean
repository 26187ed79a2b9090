/- Members (plain): those between two addresses, a token's pass, gaps; the law. -/
import Derived.Test.YtmehafolnpkmhaaDoorMemPure3
namespace Go.Proofs.YtmehafolnpkmhaaDoor.PMem
open Go.RowKit Go.Proofs.YtmehafolnpkmhaaDoorW.PrintWords Go.Proofs.YtmehafolnpkmhaaDoorW.PrintLast
/-- Those between two addresses, as the program makes them. -/
def betN (a b : Nat) : Nat := if a < b then flip32 (belowN a ||| oneN (a : Int)) &&& belowN b else flip32 (belowN a ||| oneN (a : Int)) ||| belowN b
theorem betN_lt (a b : Nat) (hb : b < 32) : Set32 (betN a b) := by
  unfold betN
  split
  · exact and_lt _ _ (belowN_lt b hb)
  · exact or_lt' _ _ (flip_lt _) (belowN_lt b hb)
theorem betN_bit (a b i : Nat) (ha : a < 32) (hi : i < 32) : (betN a b).testBit i = decide (if a < b then a < i ∧ i < b else a < i ∨ i < b) := by
  have h1 : Set32 (belowN a ||| oneN (a : Int)) := or_lt' _ _ (belowN_lt a ha) (oneN_lt _)
  unfold betN
  split
  · rw [Nat.testBit_and, flip_bit _ _ h1, Nat.testBit_or, belowN_bit, belowN_bit, oneN_bit, Bool.eq_iff_iff]
    simp [hi]
    omega
  · rw [Nat.testBit_or, flip_bit _ _ h1, Nat.testBit_or, belowN_bit, belowN_bit, oneN_bit, Bool.eq_iff_iff]
    simp [hi]
    omega
theorem mBetween_eq (a b k : Nat) (ha : a < 32) (hb : b < 32) (hk : 0 < k) : members_Between.f k (a : Int) (b : Int) = some ((betN a b : Nat) : Int) := by
  obtain ⟨k, rfl⟩ : ∃ m, k = m + 1 := ⟨k - 1, by omega⟩
  have h1 : Set32 (belowN a ||| oneN (a : Int)) := or_lt' _ _ (belowN_lt a ha) (oneN_lt _)
  unfold members_Between.f
  rw [is_eq, Option.bind_some, decide_eq_true (by omega), if_pos rfl, is_eq, Option.bind_some, decide_eq_true (by omega)]
  simp only [members_Between.j0, Bool.not_true, Bool.false_eq_true, if_false]
  rw [below_any a ha, Option.bind_some, one_any, Option.bind_some, or_u32 _ _ (belowN_lt a ha) (oneN_lt _), not_u32 _ h1, below_any b hb, Option.bind_some, Option.bind_some, and_u32 _ _ (flip_lt _) (belowN_lt b hb), or_u32 _ _ (flip_lt _) (belowN_lt b hb)]
  unfold betN
  by_cases h : a < b
  · rw [if_pos (by omega), if_pos h]
  · rw [if_neg (by omega), if_neg h]
theorem mBetween_no (a b : Int) (k : Nat) (h : ¬ ((0 ≤ a ∧ a < 32) ∧ 0 ≤ b ∧ b < 32)) (hk : 0 < k) : members_Between.f k a b = some 0 := by
  obtain ⟨k, rfl⟩ : ∃ m, k = m + 1 := ⟨k - 1, by omega⟩
  unfold members_Between.f
  rw [is_eq, Option.bind_some, is_eq]
  simp only [members_Between.j0, Option.bind_some]
  by_cases h1 : 0 ≤ a ∧ a < 32
  · have h2 : ¬ (0 ≤ b ∧ b < 32) := fun h2 => h ⟨h1, h2⟩
    rw [decide_eq_true h1, decide_eq_false h2]; rfl
  · rw [decide_eq_false h1]; rfl
/-- The addresses a + 1 + j .. put into a set, d of them. -/
def arcF (a : Nat) : Nat → Nat → Nat → Nat
  | s, _, 0 => s
  | s, j, d + 1 => arcF a (withN s (((a + 1 + j) % 32 : Nat) : Int)) (j + 1) d
theorem arcF_lt (a : Nat) : ∀ (d j s : Nat), Set32 s → Set32 (arcF a s j d)
  | 0, _, _, h => h
  | d + 1, j, s, h => arcF_lt a d (j + 1) _ (withN_lt s _ h)
theorem arcF_bit (a : Nat) (ha : a < 32) (i : Nat) (hi : i < 32) : ∀ (d j s : Nat), j + d ≤ 32 → (arcF a s j d).testBit i = (s.testBit i || decide (j ≤ (i + 31 - a) % 32 ∧ (i + 31 - a) % 32 < j + d))
  | 0, j, s, _ => by
    simp only [arcF]
    rw [decide_eq_false (by omega), Bool.or_false]
  | d + 1, j, s, h => by
    simp only [arcF]
    rw [arcF_bit a ha i hi d (j + 1) _ (by omega), withN_bit, Bool.or_assoc]
    congr 1
    rw [Bool.eq_iff_iff]
    simp
    omega
/-- How many stand between. -/
def arcN (a b : Nat) : Nat := if a = b then 31 else (b + 31 - a) % 32
theorem rbet_loop (a b : Nat) (ha : a < 32) (hb : b < 32) : ∀ (d j k s : Nat), j + d = arcN a b → Set32 s → d + 110 < k →
    fuglemanref05_Between.l0 k (a : Int) (b : Int) (s : Int) (((a + 1 + j) % 32 : Nat) : Int) = some ((arcF a s j d : Nat) : Int)
  | 0, j, k, s, hj, hs, hk => by
    obtain ⟨k, rfl⟩ : ∃ m, k = m + 1 := ⟨k - 1, by omega⟩
    simp only [fuglemanref05_Between.l0, arcF]
    unfold arcN at hj
    split at hj
    · have : (a + 1 + j) % 32 = a := by omega
      rw [this]
      by_cases h : a = b
      · rw [if_pos (by omega)]
      · rw [if_neg (by omega), if_pos rfl]
    · have : (a + 1 + j) % 32 = b := by omega
      rw [this, if_pos rfl]
  | d + 1, j, k, s, hj, hs, hk => by
    obtain ⟨k, rfl⟩ : ∃ m, k = m + 1 := ⟨k - 1, by omega⟩
    simp only [fuglemanref05_Between.l0, arcF]
    have h1 : (a + 1 + j) % 32 ≠ a ∧ (a + 1 + j) % 32 ≠ b := by
      unfold arcN at hj
      split at hj <;> omega
    have h3 : Int.tmod (wrap64 ((((a + 1 + j) % 32 : Nat) : Int) + 1)) 32 = (((a + 1 + (j + 1)) % 32 : Nat) : Int) := by
      rw [w64id _ (by omega) (by omega), Int.tmod_eq_emod_of_nonneg (by omega)]
      omega
    rw [if_neg (by omega), if_neg (by omega), rWith_eq s k _ hs (by omega), Option.bind_some, h3, rbet_loop a b ha hb d (j + 1) k _ (by omega) (withN_lt s _ hs) (by omega)]
theorem arc_bet (a b : Nat) (ha : a < 32) (hb : b < 32) : arcF a 0 0 (arcN a b) = betN a b := by
  have hN : arcN a b ≤ 31 := by unfold arcN; split <;> omega
  refine bits_ext _ _ (arcF_lt a _ _ _ (by decide)) (betN_lt a b hb) fun i hi => ?_
  rw [arcF_bit a ha i hi _ _ _ (by omega), betN_bit a b i ha hi, Nat.zero_testBit, Bool.false_or, Bool.eq_iff_iff]
  simp only [decide_eq_true_eq]
  unfold arcN
  split <;> split <;> omega
theorem rBetween_eq (a b k : Nat) (ha : a < 32) (hb : b < 32) (hk : 150 < k) : fuglemanref05_Between.f k (a : Int) (b : Int) = some ((betN a b : Nat) : Int) := by
  have hN : arcN a b ≤ 31 := by unfold arcN; split <;> omega
  have hl := fun k => rbet_loop a b ha hb (arcN a b) 0 k 0 (by omega) (by decide)
  obtain ⟨k, rfl⟩ : ∃ m, k = m + 1 := ⟨k - 1, by omega⟩
  unfold fuglemanref05_Between.f
  rw [if_neg (by omega), if_neg (by omega), if_neg (by omega)]
  simp only [fuglemanref05_Between.j0]
  rw [if_neg (by simp; omega)]
  have h3 : Int.tmod (wrap64 ((a : Int) + 1)) 32 = (((a + 1 + 0) % 32 : Nat) : Int) := by
    rw [w64id _ (by omega) (by omega), Int.tmod_eq_emod_of_nonneg (by omega)]
    omega
  rw [h3, ← arc_bet a b ha hb]
  exact hl k (by omega)
theorem rBetween_no (a b : Int) (k : Nat) (h : ¬ ((0 ≤ a ∧ a < 32) ∧ 0 ≤ b ∧ b < 32)) (hk : 0 < k) : fuglemanref05_Between.f k a b = some 0 := by
  obtain ⟨k, rfl⟩ : ∃ m, k = m + 1 := ⟨k - 1, by omega⟩
  unfold fuglemanref05_Between.f
  simp only [fuglemanref05_Between.j0]
  split
  · simp
  · split
    · simp
    · split
      · simp
      · rw [if_pos (by simp; omega)]
/-! ### Pass -/
def passN (x a b : Nat) : Nat := ((x &&& flip32 (betN a b)) ||| oneN (a : Int)) ||| oneN (b : Int)
theorem passN_lt (x a b : Nat) : Set32 (passN x a b) := or_lt' _ _ (or_lt' _ _ (and_lt _ _ (flip_lt _)) (oneN_lt _)) (oneN_lt _)
theorem passN_bit (x a b i : Nat) (hb : b < 32) (hi : i < 32) : (passN x a b).testBit i = ((x.testBit i && !(betN a b).testBit i) || decide (i = a ∨ i = b)) := by
  unfold passN
  rw [Nat.testBit_or, Nat.testBit_or, Nat.testBit_and, flip_bit _ _ (betN_lt a b hb), oneN_bit, oneN_bit, Bool.eq_iff_iff]
  cases x.testBit i
  · simp [hi]; omega
  · cases (betN a b).testBit i
    · simp [hi]
    · simp [hi]; omega
theorem mPass_eq (x a b k : Nat) (hx : Set32 x) (ha : a < 32) (hb : b < 32) (hk : 1 < k) : members_Pass.f k (x : Int) (a : Int) (b : Int) = some ((passN x a b : Nat) : Int) := by
  obtain ⟨k, rfl⟩ : ∃ m, k = m + 1 := ⟨k - 1, by omega⟩
  unfold members_Pass.f
  rw [is_eq, Option.bind_some, decide_eq_true (by omega), if_pos rfl, is_eq, Option.bind_some, decide_eq_true (by omega)]
  simp only [members_Pass.j0, Bool.not_true, Bool.false_eq_true, if_false]
  rw [mBetween_eq a b k ha hb (by omega), Option.bind_some, one_any, Option.bind_some, one_any, Option.bind_some, andNot_u32 _ _ hx (betN_lt a b hb), or_u32 _ _ (and_lt _ _ (flip_lt _)) (oneN_lt _),
    or_u32 _ _ (or_lt' _ _ (and_lt _ _ (flip_lt _)) (oneN_lt _)) (oneN_lt _)]
  rfl
theorem mPass_no (x a b : Int) (k : Nat) (h : ¬ ((0 ≤ a ∧ a < 32) ∧ 0 ≤ b ∧ b < 32)) (hk : 0 < k) : members_Pass.f k x a b = some x := by
  obtain ⟨k, rfl⟩ : ∃ m, k = m + 1 := ⟨k - 1, by omega⟩
  unfold members_Pass.f
  rw [is_eq, Option.bind_some, is_eq]
  simp only [members_Pass.j0, Option.bind_some]
  by_cases h1 : 0 ≤ a ∧ a < 32
  · have h2 : ¬ (0 ≤ b ∧ b < 32) := fun h2 => h ⟨h1, h2⟩
    rw [decide_eq_true h1, decide_eq_false h2]; rfl
  · rw [decide_eq_false h1]; rfl
/-- Numbers taken out of a set, one by one. -/
def outL : Nat → List Int → Nat
  | s, [] => s
  | s, n :: l => outL (withoutN s n) l
theorem outL_lt : ∀ (l : List Int) (s : Nat), Set32 s → Set32 (outL s l)
  | [], _, h => h
  | n :: l, s, _ => outL_lt l _ (withoutN_lt s n)
theorem outL_bit (i : Nat) (hi : i < 32) : ∀ (l : List Int) (s : Nat), (outL s l).testBit i = (s.testBit i && !l.any fun n => decide ((i : Int) = n))
  | [], s => by simp [outL]
  | n :: l, s => by
    simp only [outL, List.any_cons]
    rw [outL_bit i hi l, withoutN_bit _ _ _ hi, Bool.not_or, Bool.and_assoc]
theorem rpass_loop (a b : Nat) (ha : a < 32) (hb : b < 32) : ∀ (rest pre : List Int) (k s : Nat), Set32 s → pre.length + rest.length ≤ 40 → rest.length + 110 < k →
    fuglemanref05_Pass.l0 k (s : Int) (a : Int) (b : Int) (pre ++ rest) (pre.length : Int) = some ((withN (withN (outL s rest) (a : Int)) (b : Int) : Nat) : Int)
  | [], pre, k, s, hs, hl, hk => by
    obtain ⟨k, rfl⟩ : ∃ m, k = m + 1 := ⟨k - 1, by omega⟩
    simp only [fuglemanref05_Pass.l0, outL]
    rw [if_neg (by simp), rWith_eq s k _ hs (by omega), Option.bind_some, rWith_eq _ k _ (withN_lt s _ hs) (by omega), Option.bind_some]
  | n :: rest, pre, k, s, hs, hl, hk => by
    obtain ⟨k, rfl⟩ : ∃ m, k = m + 1 := ⟨k - 1, by omega⟩
    simp only [List.length_cons] at hl hk
    have e : pre ++ n :: rest = (pre ++ [n]) ++ rest := by simp
    have e2 : ((pre.length + 1 : Nat) : Int) = ((pre ++ [n]).length : Int) := by simp
    simp only [fuglemanref05_Pass.l0, outL]
    rw [if_pos (by simp; omega), if_pos (by omega), rd_pre, w64succ _ (by omega), rWithout_eq s k n hs (by omega), Option.bind_some, e, e2, rpass_loop a b ha hb rest (pre ++ [n]) k _ (withoutN_lt s n) (by simp; omega) (by omega)]
theorem rPass_eq (x a b k : Nat) (hx : Set32 x) (ha : a < 32) (hb : b < 32) (hk : 190 < k) : fuglemanref05_Pass.f k (x : Int) (a : Int) (b : Int) = some ((passN x a b : Nat) : Int) := by
  have hll := filter_len (betN a b)
  obtain ⟨k, rfl⟩ : ∃ m, k = m + 1 := ⟨k - 1, by omega⟩
  have h := rpass_loop a b ha hb (elems (betN a b) 0 32) [] k x hx (by simp; omega) (by omega)
  unfold fuglemanref05_Pass.f
  rw [if_neg (by omega), if_neg (by omega), if_neg (by omega)]
  simp only [fuglemanref05_Pass.j0]
  rw [if_neg (by simp; omega), rBetween_eq a b k ha hb (by omega), Option.bind_some, list_eq _ k (betN_lt a b hb) (by omega), Option.bind_some]
  refine (show _ = _ from h).trans ?_
  congr 2
  refine bits_ext _ _ (withN_lt _ _ (withN_lt _ _ (outL_lt _ _ hx))) (passN_lt x a b) fun i hi => ?_
  rw [withN_bit, withN_bit, outL_bit i hi, passN_bit x a b i hb hi]
  have e : (elems (betN a b) 0 32).any (fun n => decide ((i : Int) = n)) = (betN a b).testBit i := by
    rw [Bool.eq_iff_iff]
    simp only [List.any_eq_true, elems_mem, decide_eq_true_eq]
    constructor
    · rintro ⟨n, ⟨c, rfl, _, _, h2⟩, h1⟩
      obtain rfl : i = c := by omega
      exact h2
    · intro h2
      exact ⟨i, ⟨i, rfl, by omega, by omega, h2⟩, rfl⟩
  rw [e, Bool.or_assoc]
  congr 1
  rw [Bool.eq_iff_iff]
  simp
  omega
theorem rPass_no (x a b : Int) (k : Nat) (h : ¬ ((0 ≤ a ∧ a < 32) ∧ 0 ≤ b ∧ b < 32)) (hk : 0 < k) : fuglemanref05_Pass.f k x a b = some x := by
  obtain ⟨k, rfl⟩ : ∃ m, k = m + 1 := ⟨k - 1, by omega⟩
  unfold fuglemanref05_Pass.f
  simp only [fuglemanref05_Pass.j0]
  split
  · simp
  · split
    · simp
    · split
      · simp
      · rw [if_pos (by simp; omega)]
/-! ### Gap -/
def upN (top : Int) : Nat := if top < 32 then belowN top.toNat ||| oneN top else 4294967295
theorem upN_lt (top : Int) (h : 0 ≤ top) : Set32 (upN top) := by
  unfold upN
  split
  · exact or_lt' _ _ (belowN_lt _ (by omega)) (oneN_lt _)
  · decide
theorem upN_bit (top : Int) (h : 0 ≤ top) (i : Nat) (hi : i < 32) : (upN top).testBit i = decide ((i : Int) ≤ top) := by
  unfold upN
  split
  · rw [Nat.testBit_or, belowN_bit, oneN_bit, Bool.eq_iff_iff]
    simp [hi]
    omega
  · have h1 := flip_bit 0 i (by decide)
    have h2 : flip32 0 = 4294967295 := rfl
    rw [h2] at h1
    rw [h1, Nat.zero_testBit, Bool.eq_iff_iff]
    simp [hi]
    omega
theorem mGap_j1 (a b k : Nat) (top : Int) (ha : a < 32) (hb : b < 32) (ht : 0 ≤ top) (hk : 2 < k) : members_Gap.j1 k (a : Int) top (b : Int) = some ((betN a b &&& upN top : Nat) : Int) := by
  obtain ⟨k, rfl⟩ : ∃ m, k = m + 1 := ⟨k - 1, by omega⟩
  simp only [members_Gap.j1]
  rw [is_eq, Option.bind_some]
  by_cases h : top < 32
  · obtain ⟨t, rfl⟩ := Int.eq_ofNat_of_zero_le ht
    rw [decide_eq_true (by omega), if_pos rfl, below_any t (by omega), Option.bind_some, one_any, Option.bind_some, mBetween_eq a b k ha hb (by omega), Option.bind_some, or_u32 _ _ (belowN_lt t (by omega)) (oneN_lt _)]
    have e : belowN t ||| oneN (t : Int) = upN (t : Int) := by
      unfold upN; rw [if_pos h, Int.toNat_natCast]
    rw [e, and_u32 _ _ (betN_lt a b hb) (upN_lt _ ht)]
  · rw [decide_eq_false (by omega)]
    simp only [Bool.false_eq_true, if_false]
    have e : (4294967295 : Int) = ((upN top : Nat) : Int) := by
      unfold upN; rw [if_neg h]; rfl
    rw [mBetween_eq a b k ha hb (by omega), Option.bind_some, e, and_u32 _ _ (betN_lt a b hb) (upN_lt _ ht)]
theorem rgap_loop (top : Int) : ∀ (rest pre : List Int) (k s : Nat), Set32 s → (∀ n ∈ rest, 0 ≤ n ∧ n < 32) → pre.length + rest.length ≤ 40 → rest.length + 110 < k →
    fuglemanref05_Gap.l0 k top (pre ++ rest) (s : Int) (pre.length : Int) = some ((ofL s (rest.filter fun n => decide (n ≤ top)) : Nat) : Int)
  | [], pre, k, s, _, _, _, hk => by
    obtain ⟨k, rfl⟩ : ∃ m, k = m + 1 := ⟨k - 1, by omega⟩
    simp only [fuglemanref05_Gap.l0]
    rw [if_neg (by simp)]
    simp [ofL]
  | n :: rest, pre, k, s, hs, hr, hl, hk => by
    obtain ⟨k, rfl⟩ : ∃ m, k = m + 1 := ⟨k - 1, by omega⟩
    simp only [List.length_cons] at hl hk
    obtain ⟨h0, h1⟩ := hr n (by simp)
    have hr' : ∀ m ∈ rest, 0 ≤ m ∧ m < 32 := fun m hm => hr m (by simp [hm])
    have e : pre ++ n :: rest = (pre ++ [n]) ++ rest := by simp
    have e2 : ((pre.length + 1 : Nat) : Int) = ((pre ++ [n]).length : Int) := by simp
    simp only [fuglemanref05_Gap.l0]
    rw [if_pos (by simp; omega), if_pos (by omega), rd_pre, w64succ _ (by omega)]
    by_cases h : n ≤ top
    · rw [if_pos h]
      obtain ⟨m, rfl⟩ := Int.eq_ofNat_of_zero_le h0
      rw [with_eq s m k hs (by omega) (by omega), Option.bind_some, e, e2, rgap_loop top rest (pre ++ [(m : Int)]) k _ (or_lt s m hs (by omega)) hr' (by simp; omega) (by omega)]
      rw [List.filter_cons]
      simp [h, ofL]
    · rw [if_neg h, e, e2, rgap_loop top rest (pre ++ [n]) k s hs hr' (by simp; omega) (by omega)]
      rw [List.filter_cons]
      simp [h]
theorem rGap_j1 (a b k : Nat) (top : Int) (ha : a < 32) (hb : b < 32) (hk : 190 < k) : fuglemanref05_Gap.j1 k (a : Int) top (b : Int) = some ((ofL 0 ((elems (betN a b) 0 32).filter fun n => decide (n ≤ top)) : Nat) : Int) := by
  have hll := filter_len (betN a b)
  obtain ⟨k, rfl⟩ : ∃ m, k = m + 1 := ⟨k - 1, by omega⟩
  have h := rgap_loop top (elems (betN a b) 0 32) [] k 0 (by decide) (elems_lt _) (by simp; omega) (by omega)
  simp only [fuglemanref05_Gap.j1]
  rw [rBetween_eq a b k ha hb (by omega), Option.bind_some, list_eq _ k (betN_lt a b hb) (by omega), Option.bind_some]
  exact h
theorem gap_same (a b k : Nat) (top : Int) (ha : a < 32) (hb : b < 32) (ht : 0 ≤ top) (hk : 190 < k) : members_Gap.j1 k (a : Int) top (b : Int) = fuglemanref05_Gap.j1 k (a : Int) top (b : Int) := by
  rw [mGap_j1 a b k top ha hb ht (by omega), rGap_j1 a b k top ha hb hk]
  congr 2
  refine bits_ext _ _ (and_lt _ _ (upN_lt _ ht)) (ofL_filter_lt _ _) fun i hi => ?_
  rw [ofL_filter _ (betN_lt a b hb), Nat.testBit_and, upN_bit top ht i hi]
theorem gap_eq (x a k : Nat) (top : Int) (hx : Set32 x) (ha : a < 32) (hk : 200 < k) : members_Gap.f k (x : Int) (a : Int) top = fuglemanref05_Gap.f k (x : Int) (a : Int) top ∧ ∃ r, fuglemanref05_Gap.f k (x : Int) (a : Int) top = some r := by
  obtain ⟨k, rfl⟩ : ∃ m, k = m + 1 := ⟨k - 1, by omega⟩
  have hz : Set32 (withoutN x (a : Int)) := withoutN_lt _ _
  have hn := mNext_eq x a hx ha
  have hm := rNext_eq x a k hx ha (by omega)
  -- the next one
  have hb : ∃ b : Nat, b < 32 ∧ (members_Next.f (x : Int) (a : Int)).bind (fun bt167 => if bt167.2 = true then members_Gap.j1 k (a : Int) top bt167.1 else members_Gap.j1 k (a : Int) top (a : Int)) = members_Gap.j1 k (a : Int) top (b : Int)
      ∧ (fuglemanref05_Next.f k (x : Int) (a : Int)).bind (fun t274 => if t274 < 0 then fuglemanref05_Gap.j1 k (a : Int) top (a : Int) else fuglemanref05_Gap.j1 k (a : Int) top t274) = fuglemanref05_Gap.j1 k (a : Int) top (b : Int) := by
    rw [hn, hm, Option.bind_some, Option.bind_some]
    unfold turnR
    by_cases h : withoutN x (a : Int) = 0
    · refine ⟨a, ha, ?_, ?_⟩
      · rw [if_pos h]; simp
      · rw [h, turnI_none 0 a (fun i _ => Nat.zero_testBit i), if_pos (by omega)]
    · obtain ⟨b, hb, h1, _⟩ := turnR_nn _ a hz ha h
      refine ⟨b, hb, ?_, ?_⟩
      · rw [if_neg h, h1]; simp
      · rw [h1, if_neg (by omega)]
  obtain ⟨b, hb, h1, h2⟩ := hb
  unfold members_Gap.f fuglemanref05_Gap.f
  rw [is_eq, Option.bind_some, decide_eq_true (by omega), if_pos rfl, if_neg (by omega)]
  simp only [members_Gap.j0, fuglemanref05_Gap.j0]
  rw [if_neg (show ¬ (decide ((a : Int) > 31) = true) by simp; omega)]
  have e2 := rGap_j1 a b k top ha hb (by omega)
  by_cases ht : 0 ≤ top
  · rw [if_neg (by simp; omega)]
    have e1 := gap_same a b k top ha hb ht (by omega)
    exact ⟨h1.trans (e1.trans h2.symm), _, h2.trans e2⟩
  · rw [if_pos (by simp; omega)]
    refine ⟨?_, _, h2.trans e2⟩
    rw [h2, e2]
    have : ofL 0 ((elems (betN a b) 0 32).filter fun n => decide (n ≤ top)) = 0 := by
      refine zero_of _ (ofL_filter_lt _ _) fun i hi => ?_
      rw [ofL_filter _ (betN_lt a b hb), decide_eq_false (by omega), Bool.and_false]
    rw [this]; rfl
theorem mGap_no (x a top : Int) (k : Nat) (h : ¬ (0 ≤ a ∧ a < 32)) (hk : 0 < k) : members_Gap.f k x a top = some 0 := by
  obtain ⟨k, rfl⟩ : ∃ m, k = m + 1 := ⟨k - 1, by omega⟩
  unfold members_Gap.f
  rw [is_eq, Option.bind_some, decide_eq_false h]
  simp [members_Gap.j0]
theorem rGap_no (x a top : Int) (k : Nat) (h : ¬ (0 ≤ a ∧ a < 32)) (hk : 0 < k) : fuglemanref05_Gap.f k x a top = some 0 := by
  obtain ⟨k, rfl⟩ : ∃ m, k = m + 1 := ⟨k - 1, by omega⟩
  unfold fuglemanref05_Gap.f
  simp only [fuglemanref05_Gap.j0]
  split
  · simp
  · rw [if_pos (by simp; omega)]
theorem between_law (x : Nat) (a b : Int) (hx : Set32 x) : fuglemanlaw05_MembersBetween.f 300 (x : Int) a b = some true := by
  have h1 : ∃ r, members_Between.f 300 a b = some r ∧ fuglemanref05_Between.f 300 a b = some r := by
    by_cases h : (0 ≤ a ∧ a < 32) ∧ 0 ≤ b ∧ b < 32
    · obtain ⟨m, rfl⟩ := Int.eq_ofNat_of_zero_le h.1.1
      obtain ⟨n, rfl⟩ := Int.eq_ofNat_of_zero_le h.2.1
      exact ⟨_, mBetween_eq m n 300 (by omega) (by omega) (by omega), rBetween_eq m n 300 (by omega) (by omega) (by omega)⟩
    · exact ⟨0, mBetween_no a b 300 h (by omega), rBetween_no a b 300 h (by omega)⟩
  have h2 : ∃ r, members_Pass.f 300 (x : Int) a b = some r ∧ fuglemanref05_Pass.f 300 (x : Int) a b = some r := by
    by_cases h : (0 ≤ a ∧ a < 32) ∧ 0 ≤ b ∧ b < 32
    · obtain ⟨m, rfl⟩ := Int.eq_ofNat_of_zero_le h.1.1
      obtain ⟨n, rfl⟩ := Int.eq_ofNat_of_zero_le h.2.1
      exact ⟨_, mPass_eq x m n 300 hx (by omega) (by omega) (by omega), rPass_eq x m n 300 hx (by omega) (by omega) (by omega)⟩
    · exact ⟨x, mPass_no _ a b 300 h (by omega), rPass_no _ a b 300 h (by omega)⟩
  have h3 : ∃ r, members_Gap.f 300 (x : Int) a b = some r ∧ fuglemanref05_Gap.f 300 (x : Int) a b = some r := by
    by_cases h : 0 ≤ a ∧ a < 32
    · obtain ⟨m, rfl⟩ := Int.eq_ofNat_of_zero_le h.1
      obtain ⟨e1, r, e2⟩ := gap_eq x m 300 b hx (by omega) (by omega)
      exact ⟨r, e1.trans e2, e2⟩
    · exact ⟨0, mGap_no _ a b 300 h (by omega), rGap_no _ a b 300 h (by omega)⟩
  obtain ⟨r1, e1, f1⟩ := h1
  obtain ⟨r2, e2, f2⟩ := h2
  obtain ⟨r3, e3, f3⟩ := h3
  unfold fuglemanlaw05_MembersBetween.f
  rw [show fuglemanlaw05_awake.f 300 = some true by decide +kernel, Option.bind_some, if_pos rfl, e1, Option.bind_some, f1, Option.bind_some, if_pos rfl, e2, Option.bind_some, f2, Option.bind_some, if_pos rfl, e3, Option.bind_some, f3, Option.bind_some]
  simp
end Go.Proofs.YtmehafolnpkmhaaDoor.PMem
