/- Wheel: what holds within a tick; the bits that are gone over. -/
import Derived.Test.YtkeeledkdoiglaaDoorWhTick
import Derived.Lib.TrailingZeros
namespace Go.Proofs.YtkeeledkdoiglaaDoor.Wh
open Go.RowKit Go.Proofs.YtkeeledkdoiglaaDoor
theorem ctz_bits16 (x : Nat) (h0 : x ≠ 0) (hx : x < 65536) : Lib.ctz 16 x < 16 ∧ x.testBit (Lib.ctz 16 x) = true ∧ (∀ i, i < Lib.ctz 16 x → x.testBit i = false) ∧ ∀ i, (x &&& (x - 1)).testBit i = (x.testBit i && decide (i ≠ Lib.ctz 16 x)) := by
  unfold Lib.ctz
  rw [if_neg h0]
  obtain ⟨m, hm, hk⟩ := Lib.ctzFrom_spec 16 x (by omega) (by omega)
  generalize Lib.ctzFrom 16 x = k at *
  have hp : 0 < 2 ^ k := Nat.pow_pos (by decide)
  have hlow : ∀ i, i < k → x.testBit i = false := by
    intro i hi
    rw [hm, Nat.testBit_two_pow_mul]
    simp
    omega
  have q1 : x = m * 2 ^ (k + 1) + 2 ^ k := by
    rw [hm, Nat.pow_succ, Nat.mul_add, Nat.mul_one, Nat.mul_comm (2 ^ k) (2 * m), Nat.mul_comm (2 ^ k) 2, ← Nat.mul_assoc, Nat.mul_comm m 2]
  have q2 : 2 ^ (k + 1) = 2 * 2 ^ k := by rw [Nat.pow_succ, Nat.mul_comm]
  refine ⟨hk, ?_, hlow, ?_⟩
  · rw [hm, Nat.testBit_two_pow_mul]
    simp
  · intro i
    rw [Nat.testBit_and]
    rcases Nat.lt_trichotomy i k with h | h | h
    · rw [hlow i h]; simp
    · subst h
      have e : (x - 1) / 2 ^ i = 2 * m := by
        have q3 : m * (2 * 2 ^ i) = 2 * m * 2 ^ i := by rw [← Nat.mul_assoc, Nat.mul_comm m 2]
        apply Nat.div_eq_of_lt_le
        · rw [q2] at q1; omega
        · rw [Nat.add_mul, Nat.one_mul]; rw [q2] at q1; omega
      have : (x - 1).testBit i = false := by
        rw [Nat.testBit_eq_decide_div_mod_eq, e]
        simp
      rw [this]; simp
    · have e1 : x / 2 ^ (k + 1) = m := by
        apply Nat.div_eq_of_lt_le
        · omega
        · rw [Nat.add_mul, Nat.one_mul]; omega
      have e2 : (x - 1) / 2 ^ (k + 1) = m := by
        apply Nat.div_eq_of_lt_le
        · omega
        · rw [Nat.add_mul, Nat.one_mul]; omega
      obtain ⟨d, rfl⟩ : ∃ d, i = d + (k + 1) := ⟨i - (k + 1), by omega⟩
      have f1 : (x - 1).testBit (d + (k + 1)) = x.testBit (d + (k + 1)) := by
        rw [← Nat.testBit_div_two_pow, ← Nat.testBit_div_two_pow, e1, e2]
      rw [f1]
      have : decide (d + (k + 1) ≠ k) = true := by simp; omega
      rw [this]
      simp
structure Weak (s : WS) : Prop where
  m : s.M < 65536
  s16 : ∀ j, j < 32 → s.S j < 65536
  n : 0 ≤ s.now
  sp : ∀ j, j < 32 → ∀ i, i < 16 → (s.S j).testBit i = (s.M.testBit i && decide (s.D i % 32 = (j : Int)))
  due : ∀ i, i < 16 → s.M.testBit i = true → s.now ≤ s.D i ∧ s.D i ≤ s.now + 10000
theorem weak_off {s : WS} (h : Weak s) (i : Nat) (hi : i < 16) (hb : s.M.testBit i = true) : Weak (s.off i) := by
  have hd := h.due i hi hb
  have hn := h.n
  refine ⟨and_lt _ _ h.m, fun j hj => ?_, h.n, fun j hj k hk => ?_, fun k hk hkb => ?_⟩
  · simp only [WS.off, upd]
    split
    · exact and_lt _ _ (h.s16 _ (by omega))
    · exact h.s16 j hj
  · simp only [WS.off, upd]
    rw [bit_off _ _ _ h.m hi]
    split
    · next e =>
      rw [bit_off _ _ _ (h.s16 _ (by omega)) hi, h.sp _ (by omega) k hk]
      by_cases hki : k = i
      · simp [hki]
      · subst e
        simp [hki]
    · next e =>
      rw [h.sp j hj k hk]
      by_cases hki : k = i
      · subst hki
        have : ¬ (s.D k % 32 = (j : Int)) := by omega
        simp [this]
      · have : decide (k ≠ i) = true := by simp [hki]
        rw [this, Bool.and_true] <;> rfl
  · simp only [WS.off] at hkb ⊢
    rw [bit_off _ _ _ h.m hi] at hkb
    exact h.due k hk (by simp at hkb; exact hkb.1)
/-- The state of a tick: those of the first k are done; l are the bits still to come. -/
structure TS (s s1 : WS) (l k : Nat) : Prop where
  kle : k ≤ 16
  weak : Weak s1
  now : s1.now = s.now + 1
  D : s1.D = s.D
  M : ∀ i, i < 16 → s1.M.testBit i = (s.M.testBit i && !(decide (i < k) && decide (s.left i = 1)))
  llt : l < 65536
  lb : ∀ i, i < 16 → l.testBit i = ((s.S ((s.now + 1) % 32).toNat).testBit i && decide (k ≤ i))
theorem ts_start {s : WS} (hG : Good s) : TS s { s with now := s.now + 1 } (s.S ((s.now + 1) % 32).toNat) 0 := by
  have hn := hG.n
  refine ⟨by omega, ⟨hG.m, hG.s16, by show 0 ≤ s.now + 1; omega, hG.sp, fun i hi hb => ?_⟩, rfl, rfl, fun i hi => by simp, hG.s16 _ (by omega), fun i hi => by simp⟩
  have := hG.due i hi hb
  show s.now + 1 ≤ s.D i ∧ s.D i ≤ s.now + 1 + 10000
  omega
theorem comes_skip (f : Nat → Int) (k : Nat) : ∀ d, (∀ i, k ≤ i → i < k + d → f i ≠ 1) → comes f (k + d) = comes f k
  | 0, _ => rfl
  | d + 1, h => by
    rw [← Nat.add_assoc]
    conv => lhs; unfold comes
    rw [if_neg (h (k + d) (by omega) (by omega))]
    exact comes_skip f k d fun i h1 h2 => h i h1 (by omega)
theorem left_one {s : WS} (hG : Good s) {i : Nat} (hi : i < 16) : s.left i = 1 ↔ (s.S ((s.now + 1) % 32).toNat).testBit i = true ∧ s.D i = s.now + 1 := by
  have hn := hG.n
  rw [hG.sp _ (by omega) i hi]
  unfold WS.left
  cases hb : s.M.testBit i
  · simp
  · simp only [if_true, Bool.true_and, decide_eq_true_eq]
    omega
section
variable {s s1 : WS} {l k : Nat}
theorem ts_at (hG : Good s) (h : TS s s1 l k) (hl : l ≠ 0) : ∃ c, c = Lib.ctz 16 l ∧ c < 16 ∧ k ≤ c ∧ s1.M.testBit c = true ∧ s.M.testBit c = true ∧ s.D c % 32 = (s.now + 1) % 32 ∧ (∀ i, k ≤ i → i < c → s.left i ≠ 1) ∧ (s.left c = 1 ↔ s.D c = s.now + 1) := by
  obtain ⟨h1, h2, h3, h4⟩ := ctz_bits16 l hl h.llt
  have hn := hG.n
  have hc := h.lb _ h1
  rw [h2] at hc
  have hc1 : (s.S ((s.now + 1) % 32).toNat).testBit (Lib.ctz 16 l) = true := by
    cases hx : (s.S ((s.now + 1) % 32).toNat).testBit (Lib.ctz 16 l)
    · rw [hx] at hc; simp at hc
    · rfl
  have hc2 : k ≤ Lib.ctz 16 l := by
    rw [hc1] at hc; simpa using hc.symm
  have hsp := hc1
  rw [hG.sp _ (by omega) _ h1] at hsp
  have hM : s.M.testBit (Lib.ctz 16 l) = true := by
    cases hx : s.M.testBit (Lib.ctz 16 l)
    · rw [hx] at hsp; simp at hsp
    · rfl
  rw [hM, Bool.true_and, decide_eq_true_eq] at hsp
  refine ⟨_, rfl, h1, hc2, ?_, hM, by omega, fun i hk hi hf => ?_, ?_⟩
  · rw [h.M _ h1, hM]
    have : decide (Lib.ctz 16 l < k) = false := by simp; omega
    rw [this]; rfl
  · have := (left_one hG (by omega)).1 hf
    have hb := h.lb i (by omega)
    rw [this.1, h3 i hi] at hb
    simp at hb
    omega
  · rw [left_one hG h1, hc1]
    simp
theorem ts_l (hG : Good s) (h : TS s s1 l k) (hl : l ≠ 0) (i : Nat) (hi : i < 16) : (l &&& (l - 1)).testBit i = ((s.S ((s.now + 1) % 32).toNat).testBit i && decide (Lib.ctz 16 l + 1 ≤ i)) := by
  obtain ⟨h1, h2, h3, h4⟩ := ctz_bits16 l hl h.llt
  obtain ⟨c, hc, hc16, hkc, -⟩ := ts_at hG h hl
  rw [h4 i, h.lb i hi]
  rw [← hc] at h3 ⊢
  rcases Nat.lt_trichotomy i c with hx | hx | hx
  · have := h3 i hx
    rw [h.lb i hi] at this
    rw [this]
    have : decide (c + 1 ≤ i) = false := by simp; omega
    rw [this]; simp
  · subst hx
    simp
  · have e1 : decide (k ≤ i) = true := by simp; omega
    have e2 : decide (i ≠ c) = true := by simp; omega
    have e3 : decide (c + 1 ≤ i) = true := by simp; omega
    rw [e1, e2, e3]; simp
theorem ts_skip (hG : Good s) (h : TS s s1 l k) (hl : l ≠ 0) (hn : s.left (Lib.ctz 16 l) ≠ 1) : TS s s1 (l &&& (l - 1)) (Lib.ctz 16 l + 1) ∧ comes s.left (Lib.ctz 16 l + 1) = comes s.left k := by
  obtain ⟨c, hc, hc16, hkc, hb, hbs, -, hno, -⟩ := ts_at hG h hl
  have hno' : ∀ i, k ≤ i → i < c + 1 → s.left i ≠ 1 := fun i h1 h2 => by
    by_cases e : i = c
    · rw [e, hc]; exact hn
    · exact hno i h1 (by omega)
  refine ⟨⟨by omega, h.weak, h.now, h.D, fun i hi => ?_, and_lt _ _ h.llt, ts_l hG h hl⟩, ?_⟩
  · rw [h.M i hi, ← hc]
    by_cases h1 : i < k
    · have e1 : decide (i < k) = true := by simp; omega
      have e2 : decide (i < c + 1) = true := by simp; omega
      rw [e1, e2]
    · by_cases h2 : i < c + 1
      · have e1 : decide (i < k) = false := by simp; omega
        have e2 : decide (s.left i = 1) = false := by simp; exact hno' i (by omega) h2
        rw [e1, e2]; simp
      · have e1 : decide (i < k) = false := by simp; omega
        have e2 : decide (i < c + 1) = false := by simp; omega
        rw [e1, e2]
  · rw [← hc]
    have := comes_skip s.left k (c + 1 - k) (fun i h1 h2 => hno' i h1 (by omega))
    rw [show k + (c + 1 - k) = c + 1 by omega] at this
    exact this
theorem ts_due (hG : Good s) (h : TS s s1 l k) (hl : l ≠ 0) (hn : s.left (Lib.ctz 16 l) = 1) : TS s (s1.off (Lib.ctz 16 l)) (l &&& (l - 1)) (Lib.ctz 16 l + 1) ∧ comes s.left (Lib.ctz 16 l + 1) = comes s.left k ++ [((Lib.ctz 16 l : Nat) : Int)] := by
  obtain ⟨c, hc, hc16, hkc, hb, hbs, -, hno, -⟩ := ts_at hG h hl
  rw [← hc] at hn ⊢
  refine ⟨⟨by omega, weak_off h.weak c hc16 hb, h.now, h.D, fun i hi => ?_, and_lt _ _ h.llt, fun i hi => by have := ts_l hG h hl i hi; rw [← hc] at this; exact this⟩, ?_⟩
  · show (s1.M &&& (65535 ^^^ 2 ^ c)).testBit i = _
    rw [bit_off _ _ _ h.weak.m hc16, h.M i hi]
    rcases Nat.lt_trichotomy i c with hx | hx | hx
    · have e3 : decide (i ≠ c) = true := by simp; omega
      have e2 : decide (i < c + 1) = true := by simp; omega
      rw [e2, e3, Bool.and_true]
      by_cases h1 : i < k
      · have e1 : decide (i < k) = true := by simp; omega
        rw [e1]
      · have e1 : decide (i < k) = false := by simp; omega
        have e4 : decide (s.left i = 1) = false := by simp; exact hno i (by omega) hx
        rw [e1, e4]; simp
    · subst hx
      simp [hn]
    · have e1 : decide (i < k) = false := by simp; omega
      have e2 : decide (i < c + 1) = false := by simp; omega
      have e3 : decide (i ≠ c) = true := by simp; omega
      rw [e1, e2, e3, Bool.and_true]
  · conv => lhs; unfold comes
    rw [if_pos hn]
    have := comes_skip s.left k (c - k) (fun i h1 h2 => hno i h1 (by omega))
    rw [show k + (c - k) = c by omega] at this
    rw [this]
theorem ts_end (hG : Good s) (h : TS s s1 0 k) : Good s1 ∧ comes s.left 16 = comes s.left k ∧ ∀ i, i < 16 → s1.left i = down s.left 16 i := by
  have hn := hG.n
  have hk := h.kle
  have hno : ∀ i, k ≤ i → i < 16 → s.left i ≠ 1 := fun i h1 h2 hf => by
    have hb := h.lb i h2
    rw [((left_one hG h2).1 hf).1] at hb
    simp at hb
    omega
  have hM : ∀ i, i < 16 → s1.M.testBit i = (s.M.testBit i && !decide (s.left i = 1)) := fun i hi => by
    rw [h.M i hi]
    by_cases hik : i < k
    · have e1 : decide (i < k) = true := by simp; omega
      rw [e1, Bool.true_and]
    · have e1 : decide (i < k) = false := by simp; omega
      have e4 : decide (s.left i = 1) = false := by simp; exact hno i (by omega) hi
      rw [e1, e4]; rfl
  refine ⟨⟨h.weak.m, h.weak.s16, h.weak.n, h.weak.sp, fun i hi hb => ?_⟩, ?_, fun i hi => ?_⟩
  · have hw := h.weak.due i hi hb
    rw [hM i hi] at hb
    simp at hb
    rw [h.now, h.D] at hw ⊢
    have e : s.left i = s.D i - s.now := by simp [WS.left, hb.1]
    have := hG.due i hi hb.1
    omega
  · have := comes_skip s.left k (16 - k) (fun i h1 h2 => hno i h1 (by omega))
    rw [show k + (16 - k) = 16 by omega] at this
    exact this
  · have hd := hG.due i hi
    have e1 : s1.left i = if (s.M.testBit i && !decide (s.left i = 1)) = true then s.D i - (s.now + 1) else 0 := by
      unfold WS.left
      rw [hM i hi, h.D, h.now]
      rfl
    have e2 : s.left i = if s.M.testBit i = true then s.D i - s.now else 0 := rfl
    rw [e1]
    show _ = if i < 16 ∧ 0 < s.left i then s.left i - 1 else s.left i
    cases hb : s.M.testBit i
    · rw [hb] at e2
      rw [if_neg (by simp), if_neg (by rw [e2]; simp), e2]
      rfl
    · have := hd hb
      rw [hb, if_pos rfl] at e2
      rw [e2]
      by_cases e : s.D i - s.now = 1
      · rw [if_neg (by simp [e]), if_pos (by omega), e]
        rfl
      · rw [if_pos (by simp [e]), if_pos (by omega)]
        omega
theorem good_rest {s : WS} (h : Good s) (h0 : s.M = 0) : Good { s with now := 0 } ∧ ∀ i, i < 16 → WS.left { s with now := 0 } i = s.left i := by
  refine ⟨⟨h.m, h.s16, Int.le_refl _, h.sp, fun i hi hb => ?_⟩, fun i hi => ?_⟩
  · simp [h0] at hb
  · simp [WS.left, h0]
end
end Go.Proofs.YtkeeledkdoiglaaDoor.Wh
