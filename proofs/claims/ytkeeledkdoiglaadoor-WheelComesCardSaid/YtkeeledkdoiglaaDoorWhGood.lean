/- Wheel: what holds of its numbers, whatever is set and cancelled. -/
import Derived.Test.YtkeeledkdoiglaaDoorWhNew
namespace Go.Proofs.YtkeeledkdoiglaaDoor.Wh
open Go.RowKit Go.Proofs.YtkeeledkdoiglaaDoor
theorem bit_off (m i k : Nat) (hm : m < 65536) (hi : i < 16) : (m &&& (65535 ^^^ 2 ^ i)).testBit k = (m.testBit k && decide (k ≠ i)) := by
  rw [Nat.testBit_and, Nat.testBit_xor, Nat.testBit_two_pow, show 65535 = 2 ^ 16 - 1 from rfl, Nat.testBit_two_pow_sub_one]
  by_cases hk : k < 16
  · by_cases e : i = k
    · simp [e, hk]
    · simp [e, hk, Ne.symm e]
  · have : m.testBit k = false := Nat.testBit_lt_two_pow (Nat.lt_of_lt_of_le hm (by rw [show 65536 = 2 ^ 16 from rfl]; exact Nat.pow_le_pow_right (by decide) (by omega)))
    simp [this]
theorem bit_on (m i k : Nat) : (m ||| 2 ^ i).testBit k = (m.testBit k || decide (i = k)) := by
  rw [Nat.testBit_or, Nat.testBit_two_pow]
structure Good (s : WS) : Prop where
  m : s.M < 65536
  s16 : ∀ j, j < 32 → s.S j < 65536
  n : 0 ≤ s.now
  sp : ∀ j, j < 32 → ∀ i, i < 16 → (s.S j).testBit i = (s.M.testBit i && decide (s.D i % 32 = (j : Int)))
  due : ∀ i, i < 16 → s.M.testBit i = true → s.now < s.D i ∧ s.D i ≤ s.now + 10000
theorem good_zero : Good WS.zero := ⟨by decide, fun _ _ => by simp [WS.zero], by simp [WS.zero], fun _ _ _ _ => by simp [WS.zero], fun _ _ h => by simp [WS.zero] at h⟩
/-- One less. -/
def WS.off (s : WS) (i : Nat) : WS := { s with M := s.M &&& (65535 ^^^ 2 ^ i), S := upd s.S (s.D i % 32).toNat (s.S (s.D i % 32).toNat &&& (65535 ^^^ 2 ^ i)) }
theorem and_lt (m k : Nat) (hm : m < 65536) : m &&& k < 65536 := Nat.lt_of_le_of_lt Nat.and_le_left hm
theorem good_off {s : WS} (h : Good s) (i : Nat) (hi : i < 16) (hb : s.M.testBit i = true) : Good (s.off i) ∧ ∀ k, k < 16 → (s.off i).left k = upd s.left i 0 k := by
  have hd := h.due i hi hb
  have hn := h.n
  refine ⟨⟨and_lt _ _ h.m, fun j hj => ?_, h.n, fun j hj k hk => ?_, fun k hk hkb => ?_⟩, fun k hk => ?_⟩
  · simp only [WS.off, upd]
    split
    · exact and_lt _ _ (h.s16 _ (by omega))
    · exact h.s16 j hj
  · simp only [WS.off, upd]
    rw [bit_off _ _ _ h.m hi]
    split
    · next e =>
      rw [bit_off _ _ _ (h.s16 _ (by omega)) hi, h.sp _ (by omega) k hk]
      by_cases hki : k = i
      · simp [hki]
      · subst e
        simp [hki]
    · next e =>
      rw [h.sp j hj k hk]
      by_cases hki : k = i
      · subst hki
        have : ¬ (s.D k % 32 = (j : Int)) := by omega
        simp [this]
      · have : decide (k ≠ i) = true := by simp [hki]
        rw [this, Bool.and_true] <;> rfl
  · simp only [WS.off] at hkb ⊢
    rw [bit_off _ _ _ h.m hi] at hkb
    exact h.due k hk (by simp at hkb; exact hkb.1)
  · have e := bit_off s.M i k h.m hi
    show (if (s.M &&& (65535 ^^^ 2 ^ i)).testBit k = true then s.D k - s.now else 0) = if k = i then 0 else (if s.M.testBit k = true then s.D k - s.now else 0)
    by_cases hki : k = i
    · rw [if_pos hki, if_neg (by rw [e]; simp [hki])]
    · rw [if_neg hki, e, show decide (k ≠ i) = true by simp [hki], Bool.and_true]
end Go.Proofs.YtkeeledkdoiglaaDoor.Wh
