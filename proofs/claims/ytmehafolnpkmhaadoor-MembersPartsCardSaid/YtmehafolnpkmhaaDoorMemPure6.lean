/- Members (plain): from next to next; the laws of rounds and of parts. -/
import Derived.Test.YtmehafolnpkmhaaDoorMemPure4
import Derived.Test.YtmehafolnpkmhaaDoorMemPure5
namespace Go.Proofs.YtmehafolnpkmhaaDoor.PMem
open Go.RowKit Go.Proofs.YtmehafolnpkmhaaDoorW.PrintWords Go.Proofs.YtmehafolnpkmhaaDoorW.PrintLast
theorem elems_low (x : Nat) (d i : Nat) : ∀ n ∈ elems x i d, (i : Int) ≤ n := by
  intro n hn
  obtain ⟨c, rfl, h, _⟩ := (elems_mem x d i n).1 hn
  omega
theorem elems_sorted (x : Nat) : ∀ (d i : Nat), (elems x i d).Pairwise (· < ·)
  | 0, i => List.Pairwise.nil
  | d + 1, i => by
    simp only [elems]
    split
    · refine List.Pairwise.cons (fun n hn => ?_) (elems_sorted x d (i + 1))
      have := elems_low x d (i + 1) n hn
      omega
    · exact elems_sorted x d (i + 1)
theorem rd_at (l : List Int) (p : Nat) (h : p < l.length) : rd l (p : Int) = l[p] := by
  unfold rd
  rw [Int.toNat_natCast]
  simp [h]
/-- d comes next behind c. -/
structure Cons (x c d : Nat) : Prop where
  hc : c < 32
  hd : d < 32
  ne : c ≠ d
  bc : x.testBit c = true
  bd : x.testBit d = true
  no : ∀ e, e < 32 → x.testBit e = true → (betN c d).testBit e = false
theorem cons_at (x p q : Nat) (hp : p < (elems x 0 32).length) (hq : q < (elems x 0 32).length) (h : q = p + 1 ∨ p + 1 = (elems x 0 32).length ∧ q = 0) (hne : p ≠ q) :
    ∃ c d : Nat, rd (elems x 0 32) (p : Int) = (c : Int) ∧ rd (elems x 0 32) (q : Int) = (d : Int) ∧ Cons x c d := by
  have hs := List.pairwise_iff_getElem.1 (elems_sorted x 32 0)
  rw [rd_at _ p hp, rd_at _ q hq]
  obtain ⟨c, ec, _, h1, hc⟩ := (elems_mem x 32 0 _).1 (List.getElem_mem hp)
  obtain ⟨d, ed, _, h2, hd⟩ := (elems_mem x 32 0 _).1 (List.getElem_mem hq)
  refine ⟨c, d, ec, ed, by omega, by omega, ?_, hc, hd, ?_⟩
  · rintro rfl
    rcases Nat.lt_or_ge p q with h3 | h3
    · have := hs p q hp hq h3; omega
    · have := hs q p hq hp (by omega); omega
  · intro e he hb
    obtain ⟨r, hr, er⟩ := List.getElem_of_mem ((elems_mem x 32 0 (e : Int)).2 ⟨e, rfl, by omega, by omega, hb⟩)
    rw [betN_bit c d e (by omega) he]
    apply decide_eq_false
    have h4 : r < p → e < c := fun h3 => by have := hs r p hr hp h3; omega
    have h5 : p < r → c < e := fun h3 => by have := hs p r hp hr h3; omega
    have h6 : r < q → e < d := fun h3 => by have := hs r q hr hq h3; omega
    have h7 : q < r → d < e := fun h3 => by have := hs q r hq hr h3; omega
    have h8 : r = p → e = c := fun h3 => by subst h3; omega
    have h9 : r = q → e = d := fun h3 => by subst h3; omega
    have h10 : p < q → c < d := fun h3 => by have := hs p q hp hq h3; omega
    have h11 : q < p → d < c := fun h3 => by have := hs q p hq hp h3; omega
    split
    · rintro ⟨h12, h13⟩
      rcases h with h | ⟨h, h'⟩
      · rcases Nat.lt_trichotomy r p with h3 | h3 | h3
        · have := h4 h3; omega
        · have := h8 h3; omega
        · rcases Nat.lt_trichotomy r q with h14 | h14 | h14
          · omega
          · have := h9 h14; omega
          · have := h7 h14; omega
      · have := h11 (by omega); omega
    · rintro (h12 | h12)
      · rcases h with h | ⟨h, h'⟩
        · have := h10 (by omega); omega
        · rcases Nat.lt_trichotomy r p with h3 | h3 | h3
          · have := h4 h3; omega
          · have := h8 h3; omega
          · omega
      · rcases h with h | ⟨h, h'⟩
        · have := h10 (by omega); omega
        · rcases Nat.lt_trichotomy r q with h3 | h3 | h3
          · omega
          · have := h9 h3; omega
          · have := h7 h3; omega
theorem cons_next {x c d : Nat} (hx : Set32 x) (h : Cons x c d) : members_Next.f (x : Int) (c : Int) = some ((d : Int), true) := by
  obtain ⟨hc, hd, ne, bc, bd, no⟩ := h
  rw [mNext_eq x c hx hc]
  unfold turnR
  have hb : (withoutN x (c : Int)).testBit d = true := by
    rw [withoutN_bit _ _ _ hd, bd]
    simp; omega
  have h0 : withoutN x (c : Int) ≠ 0 := by
    intro h0; rw [h0, Nat.zero_testBit] at hb; cases hb
  rw [if_neg h0, turnI_of _ c ((d + 32 - c) % 32) d (by omega) hb 32 1 (by omega) (by omega) ?_]
  intro i' h1 h2
  have hm : (c + i') % 32 < 32 := Nat.mod_lt _ (by decide)
  rw [withoutN_bit _ _ _ hm]
  cases hb2 : x.testBit ((c + i') % 32) with
  | false => rfl
  | true =>
    have := no _ hm hb2
    rw [betN_bit c d _ hc hm] at this
    have := of_decide_eq_false this
    split at this <;> omega
theorem cons_prev {x c d : Nat} (hx : Set32 x) (h : Cons x c d) : members_Prev.f (x : Int) (d : Int) = some ((c : Int), true) := by
  obtain ⟨hc, hd, ne, bc, bd, no⟩ := h
  rw [mPrev_eq x d hx hd]
  unfold prevR
  have hb : (withoutN x (d : Int)).testBit c = true := by
    rw [withoutN_bit _ _ _ hc, bc]
    simp; omega
  have h0 : withoutN x (d : Int) ≠ 0 := by
    intro h0; rw [h0, Nat.zero_testBit] at hb; cases hb
  rw [if_neg h0, prevI_of x d ((d + 32 - c) % 32) c (by omega) bc 31 1 (by omega) (by omega) ?_]
  intro i' h1 h2
  have hm : (d + 32 - i') % 32 < 32 := Nat.mod_lt _ (by decide)
  cases hb2 : x.testBit ((d + 32 - i') % 32) with
  | false => rfl
  | true =>
    have := no _ hm hb2
    rw [betN_bit c d _ hc hm] at this
    have := of_decide_eq_false this
    split at this <;> omega
theorem cons_between {x c d : Nat} (hx : Set32 x) (h : Cons x c d) (k : Nat) (hk : 0 < k) : ∃ r : Nat, members_Between.f k (c : Int) (d : Int) = some (r : Int) ∧ bits .and .u32 (r : Int) (x : Int) = 0 := by
  obtain ⟨hc, hd, ne, bc, bd, no⟩ := h
  refine ⟨_, mBetween_eq c d k hc hd hk, ?_⟩
  rw [and_u32 _ _ (betN_lt c d hd) hx]
  have : betN c d &&& x = 0 := zero_of _ (and_lt _ _ hx) fun i hi => by
    rw [Nat.testBit_and]
    cases hb : x.testBit i with
    | false => exact Bool.and_false _
    | true => rw [no i hi hb]; rfl
  rw [this]; rfl
/-- The place j steps behind place i, of n. -/
def pos (n i j : Nat) : Nat := if i + j < n then i + j else i + j - n
theorem round_loop (x i0 : Nat) (hx : Set32 x) (h2 : 2 ≤ (elems x 0 32).length) (hi : i0 < (elems x 0 32).length) : ∀ (d j k m : Nat), j + d = (elems x 0 32).length → d + 100 < k → Set32 m →
    (∀ i : Nat, i < 32 → (m.testBit i = true ↔ ∃ t, 1 ≤ t ∧ t ≤ j ∧ rd (elems x 0 32) (pos (elems x 0 32).length i0 t : Nat) = (i : Int))) →
    fuglemanlaw05_MembersRound.l0 k (x : Int) (rd (elems x 0 32) (i0 : Int)) (m : Int) (rd (elems x 0 32) (pos (elems x 0 32).length i0 j : Nat)) ((elems x 0 32).length : Int) (j : Int) = some true
  | 0, j, k, m, hj, hk, hm, hM => by
    obtain ⟨k, rfl⟩ : ∃ m, k = m + 1 := ⟨k - 1, by omega⟩
    have e : pos (elems x 0 32).length i0 j = i0 := by unfold pos; split <;> omega
    simp only [fuglemanlaw05_MembersRound.l0]
    rw [e, if_neg (by omega), if_pos rfl]
    have : m = x := by
      refine bits_ext _ _ hm hx fun i hi2 => ?_
      rw [Bool.eq_iff_iff, hM i hi2]
      constructor
      · rintro ⟨t, h3, h4, h5⟩
        have hp : pos (elems x 0 32).length i0 t < (elems x 0 32).length := by unfold pos; split <;> omega
        rw [rd_at _ _ hp] at h5
        obtain ⟨c, h6, _, _, h7⟩ := (elems_mem x 32 0 _).1 (List.getElem_mem hp)
        obtain rfl : i = c := by omega
        exact h7
      · intro hb
        obtain ⟨r, hr, er⟩ := List.getElem_of_mem ((elems_mem x 32 0 (i : Int)).2 ⟨i, rfl, by omega, by omega, hb⟩)
        refine ⟨if i0 < r then r - i0 else r + (elems x 0 32).length - i0, by split <;> omega, by split <;> omega, ?_⟩
        have e2 : pos (elems x 0 32).length i0 (if i0 < r then r - i0 else r + (elems x 0 32).length - i0) = r := by
          unfold pos; split <;> split <;> omega
        rw [e2, rd_at _ _ hr, er]
    rw [this]; simp
  | d + 1, j, k, m, hj, hk, hm, hM => by
    obtain ⟨k, rfl⟩ : ∃ m, k = m + 1 := ⟨k - 1, by omega⟩
    have hll := filter_len x
    have hp : pos (elems x 0 32).length i0 j < (elems x 0 32).length := by unfold pos; split <;> omega
    have hq : pos (elems x 0 32).length i0 (j + 1) < (elems x 0 32).length := by unfold pos; split <;> omega
    obtain ⟨c, e, hc, he, hC⟩ := cons_at x _ _ hp hq (by unfold pos; split <;> split <;> omega) (by unfold pos; split <;> split <;> omega)
    obtain ⟨r, hr1, hr2⟩ := cons_between hx hC k (by omega)
    have hnew : m.testBit e = false := by
      cases hb : m.testBit e with
      | false => rfl
      | true =>
        obtain ⟨t, h3, h4, h5⟩ := (hM e hC.hd).1 hb
        have hp2 : pos (elems x 0 32).length i0 t < (elems x 0 32).length := by unfold pos; split <;> omega
        have hne : pos (elems x 0 32).length i0 t ≠ pos (elems x 0 32).length i0 (j + 1) := by unfold pos; split <;> split <;> omega
        rw [← he, rd_at _ _ hp2, rd_at _ _ hq] at h5
        have hs := List.pairwise_iff_getElem.1 (elems_sorted x 32 0)
        rcases Nat.lt_or_ge (pos (elems x 0 32).length i0 t) (pos (elems x 0 32).length i0 (j + 1)) with h6 | h6
        · have := hs _ _ hp2 hq h6; omega
        · have := hs _ _ hq hp2 (by omega); omega
    simp only [fuglemanlaw05_MembersRound.l0]
    rw [if_pos (by omega), hc, cons_next hx hC, Option.bind_some, cons_prev hx hC, Option.bind_some]
    simp only [if_true]
    rw [mHas_eq m e hm, Option.bind_some, Int.toNat_natCast, hnew, Bool.and_false, if_neg (by simp), hr1, Option.bind_some, if_pos hr2, mWith_eq m e hm, Option.bind_some, w64succ j (by omega), ← he]
    refine round_loop x i0 hx h2 hi d (j + 1) k _ (by omega) (by omega) (withN_lt m _ hm) fun i hi2 => ?_
    rw [he, withN_bit, Bool.or_eq_true, hM i hi2, decide_eq_true_eq]
    constructor
    · rintro (⟨t, h3, h4, h5⟩ | ⟨h3, _⟩)
      · exact ⟨t, h3, by omega, h5⟩
      · exact ⟨j + 1, by omega, by omega, by rw [he, h3]⟩
    · rintro ⟨t, h3, h4, h5⟩
      by_cases ht : t = j + 1
      · subst ht; right; rw [he] at h5; exact ⟨h5.symm, hi2⟩
      · left; exact ⟨t, h3, by omega, h5⟩
theorem round_law (x at_ : Nat) (hx : Set32 x) (ha : at_ < 256) : fuglemanlaw05_MembersRound.f 300 (x : Int) (at_ : Int) = some true := by
  have hll := filter_len x
  unfold fuglemanlaw05_MembersRound.f
  rw [show fuglemanlaw05_awake.f 300 = some true by decide +kernel, Option.bind_some, if_pos rfl, mList_eq x 300 hx (by omega), Option.bind_some]
  by_cases h : ((elems x 0 32).length : Int) < 2
  · rw [if_pos h]
  · rw [if_neg h, if_neg (by omega)]
    have e : Int.tmod (wrap64 (at_ : Int)) ((elems x 0 32).length : Int) = ((at_ % (elems x 0 32).length : Nat) : Int) := by
      rw [w64id _ (by omega) (by omega)]; rfl
    have hm : at_ % (elems x 0 32).length < (elems x 0 32).length := Nat.mod_lt _ (by omega)
    rw [e, if_pos (by omega), if_pos (by omega)]
    have hl := round_loop x (at_ % (elems x 0 32).length) hx (by omega) hm (elems x 0 32).length 0 300 0 (by omega) (by omega) (by decide) (fun i hi => by
      rw [Nat.zero_testBit]
      constructor
      · intro h; cases h
      · rintro ⟨t, h1, h2, _⟩; omega)
    have e0 : pos (elems x 0 32).length (at_ % (elems x 0 32).length) 0 = at_ % (elems x 0 32).length := by unfold pos; split <;> omega
    rw [e0] at hl
    exact hl
/-! ### Parts -/
theorem parts_same (a : Nat) (ha : a < 32) : betN a a = flip32 (oneN (a : Int)) := by
  refine bits_ext _ _ (betN_lt a a ha) (flip_lt _) fun i hi => ?_
  rw [betN_bit a a i ha hi, flip_bit _ _ (oneN_lt _), oneN_bit, Bool.eq_iff_iff]
  simp [hi]
  omega
theorem ends_bit (a b i : Nat) (ha : a < 32) (hb : b < 32) (hi : i < 32) : (withN (withN 0 (a : Int)) (b : Int)).testBit i = decide (i = a ∨ i = b) := by
  rw [withN_bit, withN_bit, Nat.zero_testBit, Bool.eq_iff_iff]
  simp [hi]
  omega
theorem ends_lt (a b : Int) : Set32 (withN (withN 0 a) b) := withN_lt _ _ (withN_lt _ _ (by decide))
theorem parts_ends (a : Nat) (ha : a < 32) : withN (withN 0 (a : Int)) (a : Int) = oneN (a : Int) := by
  refine bits_ext _ _ (ends_lt _ _) (oneN_lt _) fun i hi => ?_
  rw [ends_bit a a i ha ha hi, oneN_bit, Bool.eq_iff_iff]
  simp [hi]
  omega
theorem parts_pass_same (x a : Nat) (ha : a < 32) : passN x a a = oneN (a : Int) := by
  refine bits_ext _ _ (passN_lt _ _ _) (oneN_lt _) fun i hi => ?_
  rw [passN_bit x a a i ha hi, betN_bit a a i ha hi, oneN_bit, Bool.eq_iff_iff]
  cases x.testBit i
  · simp [hi]
    omega
  · simp [hi]
    omega
theorem parts_updown (a b : Nat) (ha : a < 32) (hb : b < 32) (h : a ≠ b) : betN a b &&& betN b a = 0 := by
  refine zero_of _ (and_lt _ _ (betN_lt b a ha)) fun i hi => ?_
  rw [Nat.testBit_and, betN_bit a b i ha hi, betN_bit b a i hb hi, ← Bool.decide_and]
  apply decide_eq_false
  split <;> split <;> omega
theorem parts_upends (a b : Nat) (ha : a < 32) (hb : b < 32) (h : a ≠ b) : betN a b &&& withN (withN 0 (a : Int)) (b : Int) = 0 := by
  refine zero_of _ (and_lt _ _ (ends_lt _ _)) fun i hi => ?_
  rw [Nat.testBit_and, betN_bit a b i ha hi, ends_bit a b i ha hb hi, ← Bool.decide_and]
  apply decide_eq_false
  split <;> omega
theorem parts_downends (a b : Nat) (ha : a < 32) (hb : b < 32) (h : a ≠ b) : betN b a &&& withN (withN 0 (a : Int)) (b : Int) = 0 := by
  refine zero_of _ (and_lt _ _ (ends_lt _ _)) fun i hi => ?_
  rw [Nat.testBit_and, betN_bit b a i hb hi, ends_bit a b i ha hb hi, ← Bool.decide_and]
  apply decide_eq_false
  split <;> omega
theorem parts_all (a b : Nat) (ha : a < 32) (hb : b < 32) (h : a ≠ b) : (betN a b ||| betN b a) ||| withN (withN 0 (a : Int)) (b : Int) = 4294967295 := by
  refine bits_ext _ _ (or_lt' _ _ (or_lt' _ _ (betN_lt a b hb) (betN_lt b a ha)) (ends_lt _ _)) (by decide) fun i hi => ?_
  have h1 := flip_bit 0 i (by decide)
  have h2 : flip32 0 = 4294967295 := rfl
  rw [h2] at h1
  rw [h1, Nat.testBit_or, Nat.testBit_or, betN_bit a b i ha hi, betN_bit b a i hb hi, ends_bit a b i ha hb hi, ← Bool.decide_or, ← Bool.decide_or, Nat.zero_testBit, decide_eq_true hi]
  apply decide_eq_true
  split <;> split <;> omega
theorem parts_down (x a b : Nat) (ha : a < 32) (hb : b < 32) (h : a ≠ b) : passN x a b &&& betN b a = x &&& betN b a := by
  refine bits_ext _ _ (and_lt _ _ (betN_lt b a ha)) (and_lt _ _ (betN_lt b a ha)) fun i hi => ?_
  rw [Nat.testBit_and, Nat.testBit_and, passN_bit x a b i hb hi, betN_bit a b i ha hi, betN_bit b a i hb hi, Bool.eq_iff_iff]
  cases x.testBit i
  · simp
    split <;> omega
  · simp
    split <;> split <;> omega
theorem parts_pends (x a b : Nat) (ha : a < 32) (hb : b < 32) : passN x a b &&& withN (withN 0 (a : Int)) (b : Int) = withN (withN 0 (a : Int)) (b : Int) := by
  refine bits_ext _ _ (and_lt _ _ (ends_lt _ _)) (ends_lt _ _) fun i hi => ?_
  rw [Nat.testBit_and, passN_bit x a b i hb hi, ends_bit a b i ha hb hi, Bool.eq_iff_iff]
  simp
  omega
theorem parts_next (x a b : Nat) (ha : a < 32) (hb : b < 32) (h : a ≠ b) : members_Next.f ((passN x a b : Nat) : Int) (a : Int) = some ((b : Int), true) := by
  refine cons_next (passN_lt x a b) ⟨ha, hb, h, ?_, ?_, fun e he hbit => ?_⟩
  · rw [passN_bit x a b a hb ha]; simp
  · rw [passN_bit x a b b hb hb]; simp
  · rw [passN_bit x a b e hb he] at hbit
    cases hB : (betN a b).testBit e with
    | false => rfl
    | true =>
      rw [hB] at hbit
      simp at hbit
      rw [betN_bit a b e ha he] at hB
      have := of_decide_eq_true hB
      split at this <;> omega
end Go.Proofs.YtmehafolnpkmhaaDoor.PMem
