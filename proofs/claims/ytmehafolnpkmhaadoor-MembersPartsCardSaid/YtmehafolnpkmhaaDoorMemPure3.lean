/- Members (plain): the document's functions as bits; the laws of next ones and of sets. -/
import Derived.Test.YtmehafolnpkmhaaDoorMemPure2
namespace Go.Proofs.YtmehafolnpkmhaaDoor.PMem
open Go.RowKit Go.Proofs.YtmehafolnpkmhaaDoorW.PrintWords Go.Proofs.YtmehafolnpkmhaaDoorW.PrintLast
theorem rd_pre (pre rest : List Int) (n : Int) : rd (pre ++ n :: rest) (pre.length : Int) = n := by
  unfold rd
  rw [Int.toNat_natCast]
  simp
theorem w64succ (i : Nat) (h : i < 1000) : wrap64 ((i : Int) + 1) = ((i + 1 : Nat) : Int) := by
  rw [w64id _ (by omega) (by omega)]; omega
/-! ### The document's Without, Of -/
theorem without_loop (a : Int) : ∀ (rest pre : List Int) (k s : Nat), Set32 s → (∀ n ∈ rest, 0 ≤ n ∧ n < 32) → pre.length + rest.length ≤ 40 → rest.length + 40 < k →
    fuglemanref05_Without.l0 k a (s : Int) (pre ++ rest) (pre.length : Int) = some ((ofL s (rest.filter fun n => !decide (n = a)) : Nat) : Int)
  | [], pre, k, s, _, _, _, hk => by
    obtain ⟨k, rfl⟩ : ∃ m, k = m + 1 := ⟨k - 1, by omega⟩
    simp only [fuglemanref05_Without.l0]
    rw [if_neg (by simp)]
    simp [ofL]
  | n :: rest, pre, k, s, hs, hr, hl, hk => by
    obtain ⟨k, rfl⟩ : ∃ m, k = m + 1 := ⟨k - 1, by omega⟩
    simp only [List.length_cons] at hl hk
    simp only [fuglemanref05_Without.l0]
    rw [if_pos (by simp; omega), if_pos (by omega), rd_pre, w64succ _ (by omega)]
    obtain ⟨h0, h1⟩ := hr n (by simp)
    have hr' : ∀ m ∈ rest, 0 ≤ m ∧ m < 32 := fun m hm => hr m (by simp [hm])
    have e : pre ++ n :: rest = (pre ++ [n]) ++ rest := by simp
    have e2 : ((pre.length + 1 : Nat) : Int) = ((pre ++ [n]).length : Int) := by simp
    by_cases h : n = a
    · rw [if_pos h, e, e2, without_loop a rest (pre ++ [n]) k s hs hr' (by simp; omega) (by omega)]
      rw [List.filter_cons]
      simp [h]
    · rw [if_neg h]
      obtain ⟨m, rfl⟩ := Int.eq_ofNat_of_zero_le h0
      rw [with_eq s m k hs (by omega) (by omega), Option.bind_some, e, e2, without_loop a rest (pre ++ [(m : Int)]) k _ (or_lt s m hs (by omega)) hr' (by simp; omega) (by omega)]
      rw [List.filter_cons]
      simp [h, ofL]
theorem filter_len (x : Nat) : (elems x 0 32).length ≤ 32 := by
  rw [elems_len]; exact cnt_le x 32 0
theorem mem_filter_lt (x : Nat) (p : Int → Bool) : ∀ n ∈ (elems x 0 32).filter p, n.toNat < 32 := by
  intro n hn
  have := elems_lt x n (List.mem_filter.1 hn).1
  omega
theorem ofL_filter (x : Nat) (hx : Set32 x) (p : Int → Bool) (i : Nat) : (ofL 0 ((elems x 0 32).filter p)).testBit i = (x.testBit i && p (i : Int)) := by
  rw [ofL_bit, Nat.zero_testBit, Bool.false_or, elems_any x hx]
theorem ofL_filter_lt (x : Nat) (p : Int → Bool) : Set32 (ofL 0 ((elems x 0 32).filter p)) := ofL_lt _ _ (by decide) (mem_filter_lt x p)
theorem rWithout_eq (x k : Nat) (a : Int) (hx : Set32 x) (hk : 100 < k) : fuglemanref05_Without.f k (x : Int) a = some ((withoutN x a : Nat) : Int) := by
  unfold fuglemanref05_Without.f
  rw [list_eq x k hx (by omega), Option.bind_some]
  have h := without_loop a (elems x 0 32) [] k 0 (by decide) (elems_lt x) (by have := filter_len x; simp; omega) (by have := filter_len x; omega)
  refine (show _ = _ from h).trans ?_
  congr 2
  refine bits_ext _ _ (ofL_filter_lt x _) (withoutN_lt _ _) fun i hi => ?_
  rw [ofL_filter x hx, withoutN_bit _ _ _ hi]
theorem of_loop : ∀ (rest pre : List Int) (k s : Nat), Set32 s → (∀ n ∈ rest, 0 ≤ n ∧ n < 32) → pre.length + rest.length ≤ 40 → rest.length + 40 < k →
    fuglemanref05_Of.l0 k (pre ++ rest) (s : Int) (pre.length : Int) = some ((ofL s rest : Nat) : Int)
  | [], pre, k, s, _, _, _, hk => by
    obtain ⟨k, rfl⟩ : ∃ m, k = m + 1 := ⟨k - 1, by omega⟩
    simp only [fuglemanref05_Of.l0]
    rw [if_neg (by simp)]
    simp [ofL]
  | n :: rest, pre, k, s, hs, hr, hl, hk => by
    obtain ⟨k, rfl⟩ : ∃ m, k = m + 1 := ⟨k - 1, by omega⟩
    simp only [List.length_cons] at hl hk
    simp only [fuglemanref05_Of.l0]
    rw [if_pos (by simp; omega), if_pos (by omega), rd_pre, w64succ _ (by omega)]
    obtain ⟨h0, h1⟩ := hr n (by simp)
    have hr' : ∀ m ∈ rest, 0 ≤ m ∧ m < 32 := fun m hm => hr m (by simp [hm])
    have e : pre ++ n :: rest = (pre ++ [n]) ++ rest := by simp
    have e2 : ((pre.length + 1 : Nat) : Int) = ((pre ++ [n]).length : Int) := by simp
    obtain ⟨m, rfl⟩ := Int.eq_ofNat_of_zero_le h0
    rw [with_eq s m k hs (by omega) (by omega), Option.bind_some, e, e2, of_loop rest (pre ++ [(m : Int)]) k _ (or_lt s m hs (by omega)) hr' (by simp; omega) (by omega)]
    simp [ofL]
theorem of_elems (x : Nat) (hx : Set32 x) : ofL 0 (elems x 0 32) = x := by
  have e : elems x 0 32 = (elems x 0 32).filter (fun _ => true) := (List.filter_eq_self.2 fun _ _ => rfl).symm
  rw [e]
  refine bits_ext _ _ (ofL_filter_lt x _) hx fun i hi => ?_
  rw [ofL_filter x hx, Bool.and_true]
theorem rOf_eq (x k : Nat) (hx : Set32 x) (hk : 100 < k) : fuglemanref05_Of.f k (elems x 0 32) = some (x : Int) := by
  unfold fuglemanref05_Of.f
  have h := of_loop (elems x 0 32) [] k 0 (by decide) (elems_lt x) (by have := filter_len x; simp; omega) (by have := filter_len x; omega)
  rw [of_elems x hx] at h
  exact h
/-! ### The document's With, Has at any number -/
theorem rWith_eq (x k : Nat) (a : Int) (hx : Set32 x) (hk : 100 < k) : fuglemanref05_With.f k (x : Int) a = some ((withN x a : Nat) : Int) := by
  by_cases h : 0 ≤ a ∧ a < 32
  · obtain ⟨n, rfl⟩ := Int.eq_ofNat_of_zero_le h.1
    rw [with_eq x n k hx (by omega) (by omega)]
    unfold withN
    rw [oneN_nat n (by omega)]
  · obtain ⟨k, rfl⟩ : ∃ m, k = m + 1 := ⟨k - 1, by omega⟩
    have e : withN x a = x := by unfold withN; rw [oneN_no a h, Nat.or_zero]
    rw [e]
    unfold fuglemanref05_With.f
    simp only [fuglemanref05_With.j0]
    split
    · simp
    · rw [if_pos (by omega)]; simp
theorem rHas_eq (x k : Nat) (a : Int) (hx : Set32 x) (hk : 100 < k) : fuglemanref05_Has.f k (x : Int) a = some (decide (0 ≤ a ∧ a < 32) && x.testBit a.toNat) := by
  by_cases h : 0 ≤ a ∧ a < 32
  · obtain ⟨n, rfl⟩ := Int.eq_ofNat_of_zero_le h.1
    rw [has_eq x n k hx (by omega) (by omega), decide_eq_true h, Int.toNat_natCast]
    simp
  · rw [has_no _ a k (by omega) (by omega), decide_eq_false h]; rfl
theorem mHas_eq (x : Nat) (a : Int) (hx : Set32 x) : members_Has.f (x : Int) a = some (decide (0 ≤ a ∧ a < 32) && x.testBit a.toNat) := by
  unfold members_Has.f
  rw [one_any, Option.bind_some, and_u32 _ _ hx (oneN_lt a)]
  congr 1
  by_cases h : 0 ≤ a ∧ a < 32
  · obtain ⟨n, rfl⟩ := Int.eq_ofNat_of_zero_le h.1
    rw [decide_eq_true h, Int.toNat_natCast, Bool.true_and]
    cases hb : x.testBit n with
    | true =>
      have : x &&& oneN (n : Int) ≠ 0 := by
        intro h0
        have := congrArg (·.testBit n) h0
        simp [oneN_bit, hb] at this
        omega
      simp; omega
    | false =>
      have : x &&& oneN (n : Int) = 0 := zero_of _ (and_lt _ _ (oneN_lt _)) fun i hi => by
        rw [Nat.testBit_and, oneN_bit]
        by_cases e : i = n
        · subst e; simp [hb]
        · simp; intro _ h2; omega
      rw [this]; rfl
  · rw [oneN_no a h, decide_eq_false h, Nat.and_zero]; rfl
/-! ### Next ones -/
theorem turnR_nn (x a : Nat) (hx : Set32 x) (ha : a < 32) (h : x ≠ 0) : ∃ b : Nat, b < 32 ∧ turnI x a 1 32 = (b : Int) ∧ x.testBit b = true := by
  have key : ∀ d j, (∃ b : Nat, b < 32 ∧ turnI x a j d = (b : Int) ∧ x.testBit b = true) ∨ (∀ i, j ≤ i → i < j + d → x.testBit ((a + i) % 32) = false) := by
    intro d
    induction d with
    | zero => intro j; right; intro i h1 h2; omega
    | succ d ih =>
      intro j
      simp only [turnI]
      by_cases hb : x.testBit ((a + j) % 32) = true
      · left; rw [if_pos hb]; exact ⟨_, Nat.mod_lt _ (by decide), rfl, hb⟩
      · rw [if_neg hb]
        rcases ih (j + 1) with h1 | h1
        · left; exact h1
        · right
          intro i h2 h3
          by_cases e : i = j
          · subst e; simpa using hb
          · exact h1 i (by omega) (by omega)
  rcases key 32 1 with h1 | h1
  · exact h1
  · refine absurd (zero_of x hx fun i hi => ?_) h
    have := h1 (if a < i then i - a else i + 32 - a) (by split <;> omega) (by split <;> omega)
    rw [show (a + (if a < i then i - a else i + 32 - a)) % 32 = i by split <;> omega] at this
    exact this
theorem prevR_nn (x a : Nat) (ha : a < 32) (h : withoutN x (a : Int) ≠ 0) : ∃ b : Nat, b < 32 ∧ prevI x a 1 31 = (b : Int) ∧ x.testBit b = true := by
  have key : ∀ d j, (∃ b : Nat, b < 32 ∧ prevI x a j d = (b : Int) ∧ x.testBit b = true) ∨ (∀ i, j ≤ i → i < j + d → x.testBit ((a + 32 - i) % 32) = false) := by
    intro d
    induction d with
    | zero => intro j; right; intro i h1 h2; omega
    | succ d ih =>
      intro j
      simp only [prevI]
      by_cases hb : x.testBit ((a + 32 - j) % 32) = true
      · left; rw [if_pos hb]; exact ⟨_, Nat.mod_lt _ (by decide), rfl, hb⟩
      · rw [if_neg hb]
        rcases ih (j + 1) with h1 | h1
        · left; exact h1
        · right
          intro i h2 h3
          by_cases e : i = j
          · subst e; simpa using hb
          · exact h1 i (by omega) (by omega)
  rcases key 31 1 with h1 | h1
  · exact h1
  · refine absurd (zero_of _ (withoutN_lt x a) fun i hi => ?_) h
    rw [withoutN_bit _ _ _ hi]
    by_cases e : i = a
    · subst e; simp
    · have := h1 (if i < a then a - i else a + 32 - i) (by split <;> omega) (by split <;> omega)
      rw [show (a + 32 - (if i < a then a - i else a + 32 - i)) % 32 = i by split <;> omega] at this
      rw [this]; rfl
theorem same_no : fuglemanlaw05_same.f 0 false (-1) = some true := rfl
theorem mx_nat (b : Nat) : mx (b : Int) 0 = (b : Int) := by unfold mx; split <;> omega
theorem same_yes (b : Nat) : fuglemanlaw05_same.f (b : Int) true (b : Int) = some true := by
  unfold fuglemanlaw05_same.f
  rw [mx_nat, decide_eq_true (by omega)]
  simp
theorem same_turn (x a : Nat) (hx : Set32 x) (ha : a < 32) : fuglemanlaw05_same.f (turnR x a).1 (turnR x a).2 (turnI x a 1 32) = some true := by
  unfold turnR
  by_cases h : x = 0
  · rw [if_pos h]
    subst h
    rw [turnI_none 0 a (fun i _ => Nat.zero_testBit i)]
    exact same_no
  · rw [if_neg h]
    obtain ⟨b, _, hb, _⟩ := turnR_nn x a hx ha h
    rw [hb]
    exact same_yes b
theorem same_prev (x a : Nat) (ha : a < 32) : fuglemanlaw05_same.f (prevR x a).1 (prevR x a).2 (prevI x a 1 31) = some true := by
  unfold prevR
  by_cases h : withoutN x (a : Int) = 0
  · rw [if_pos h]
    rw [prevI_none x a 31 1 (fun i h1 h2 => ?_)]
    · exact same_no
    · have := congrArg (·.testBit ((a + 32 - i) % 32)) h
      simp only [Nat.zero_testBit] at this
      rw [withoutN_bit _ _ _ (Nat.mod_lt _ (by decide))] at this
      simp at this
      cases hb : x.testBit ((a + 32 - i) % 32) with
      | false => rfl
      | true => have := this hb; omega
  · rw [if_neg h]
    obtain ⟨b, _, hb, _⟩ := prevR_nn x a ha h
    rw [hb]
    exact same_yes b
theorem rTurn_no (x a : Int) (k : Nat) (h : ¬ (0 ≤ a ∧ a < 32)) (hk : 0 < k) : fuglemanref05_Turn.f k x a = some (-1) := by
  obtain ⟨k, rfl⟩ : ∃ m, k = m + 1 := ⟨k - 1, by omega⟩
  unfold fuglemanref05_Turn.f
  simp only [fuglemanref05_Turn.j0]
  split
  · simp
  · rw [if_pos (by simp; omega)]
theorem rPrev_no (x a : Int) (k : Nat) (h : ¬ (0 ≤ a ∧ a < 32)) (hk : 0 < k) : fuglemanref05_Prev.f k x a = some (-1) := by
  obtain ⟨k, rfl⟩ : ∃ m, k = m + 1 := ⟨k - 1, by omega⟩
  unfold fuglemanref05_Prev.f
  simp only [fuglemanref05_Prev.j0]
  split
  · simp
  · rw [if_pos (by simp; omega)]
theorem rNext_no (x k : Nat) (a : Int) (hx : Set32 x) (h : ¬ (0 ≤ a ∧ a < 32)) (hk : 100 < k) : fuglemanref05_Next.f k (x : Int) a = some (-1) := by
  unfold fuglemanref05_Next.f
  rw [rWithout_eq x k a hx hk, Option.bind_some, rTurn_no _ a k h (by omega), Option.bind_some]
theorem rNext_eq (x a k : Nat) (hx : Set32 x) (ha : a < 32) (hk : 100 < k) : fuglemanref05_Next.f k (x : Int) (a : Int) = some (turnI (withoutN x (a : Int)) a 1 32) := by
  unfold fuglemanref05_Next.f
  rw [rWithout_eq x k a hx hk, Option.bind_some, turn_eq _ a k (withoutN_lt _ _) ha (by omega), Option.bind_some]
theorem next_law (x : Nat) (a : Int) (hx : Set32 x) : fuglemanlaw05_MembersNext.f 200 (x : Int) a = some true := by
  unfold fuglemanlaw05_MembersNext.f
  rw [show fuglemanlaw05_awake.f 200 = some true by decide +kernel, Option.bind_some, if_pos rfl]
  by_cases h : 0 ≤ a ∧ a < 32
  · obtain ⟨n, rfl⟩ := Int.eq_ofNat_of_zero_le h.1
    have hn : n < 32 := by omega
    rw [mNext_eq x n hx hn, Option.bind_some, mPrev_eq x n hx hn, Option.bind_some, mTurn_eq x n hx hn, Option.bind_some, rNext_eq x n 200 hx hn (by omega), Option.bind_some,
      same_turn _ n (withoutN_lt _ _) hn, Option.bind_some, if_pos rfl, prev_eq x n 200 hx hn (by omega), Option.bind_some, same_prev x n hn, Option.bind_some, if_pos rfl,
      turn_eq x n 200 hx hn (by omega), Option.bind_some, same_turn x n hx hn, Option.bind_some]
  · rw [mNext_no x a hx h, Option.bind_some, mPrev_no _ a h, Option.bind_some, mTurn_no _ a h, Option.bind_some, rNext_no x 200 a hx h (by omega), Option.bind_some, same_no, Option.bind_some, if_pos rfl,
      rPrev_no _ a 200 h (by omega), Option.bind_some, same_no, Option.bind_some, if_pos rfl, rTurn_no _ a 200 h (by omega), Option.bind_some, same_no, Option.bind_some]
end Go.Proofs.YtmehafolnpkmhaaDoor.PMem
