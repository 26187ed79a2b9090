/- Wheel: what holds of its numbers behind a Set. -/
import Derived.Test.YtkeeledkdoiglaaDoorWhGood
namespace Go.Proofs.YtkeeledkdoiglaaDoor.Wh
open Go.RowKit Go.Proofs.YtkeeledkdoiglaaDoor
/-- Set to t ticks. -/
def WS.on (s : WS) (i t : Nat) : WS := { s with D := upd s.D i (s.now + t), M := s.M ||| 2 ^ i, S := upd s.S ((s.now + t) % 32).toNat (s.S ((s.now + t) % 32).toNat ||| 2 ^ i) }
theorem or_lt (m i : Nat) (hm : m < 65536) (hi : i < 16) : m ||| 2 ^ i < 65536 := by
  have := Nat.or_lt_two_pow (n := 16) (x := m) (y := 2 ^ i) (by omega) (Nat.pow_lt_pow_right (by decide) hi)
  omega
theorem good_on {s : WS} (h : Good s) (i t : Nat) (hi : i < 16) (ht : 1 ≤ t ∧ t ≤ 10000) (hb : s.M.testBit i = false) : Good (s.on i t) ∧ ∀ k, k < 16 → (s.on i t).left k = upd s.left i (t : Int) k := by
  have hn := h.n
  refine ⟨⟨or_lt _ _ h.m hi, fun j hj => ?_, h.n, fun j hj k hk => ?_, fun k hk hkb => ?_⟩, fun k hk => ?_⟩
  · simp only [WS.on, upd]
    split
    · exact or_lt _ _ (h.s16 _ (by omega)) hi
    · exact h.s16 j hj
  · have e := h.sp j hj k hk
    show (upd s.S ((s.now + t) % 32).toNat (s.S ((s.now + t) % 32).toNat ||| 2 ^ i) j).testBit k = ((s.M ||| 2 ^ i).testBit k && decide (upd s.D i (s.now + t) k % 32 = (j : Int)))
    rw [bit_on]
    by_cases hki : k = i
    · subst hki
      simp only [upd, if_pos]
      by_cases hjj : j = ((s.now + t) % 32).toNat
      · rw [if_pos hjj, bit_on]
        have : (s.now + t) % 32 = (j : Int) := by omega
        simp [this]
      · rw [if_neg hjj, e, hb]
        have : ¬ ((s.now + t) % 32 = (j : Int)) := by omega
        simp [this]
    · have hik : decide (i = k) = false := by simp; omega
      simp only [upd, if_neg hki, hik, Bool.or_false]
      by_cases hjj : j = ((s.now + t) % 32).toNat
      · rw [if_pos hjj, bit_on, hik, Bool.or_false, ← hjj]
        exact e
      · rw [if_neg hjj]
        exact e
  · by_cases hki : k = i
    · subst hki
      show s.now < upd s.D k (s.now + t) k ∧ upd s.D k (s.now + t) k ≤ s.now + 10000
      simp only [upd, if_pos]
      omega
    · show s.now < upd s.D i (s.now + t) k ∧ upd s.D i (s.now + t) k ≤ s.now + 10000
      simp only [upd, if_neg hki]
      have hik : decide (i = k) = false := by simp; omega
      refine h.due k hk ?_
      have e := bit_on s.M i k
      rw [hik, Bool.or_false] at e
      rw [← e]
      exact hkb
  · have e := bit_on s.M i k
    show (if (s.M ||| 2 ^ i).testBit k = true then upd s.D i (s.now + t) k - s.now else 0) = if k = i then (t : Int) else (if s.M.testBit k = true then s.D k - s.now else 0)
    by_cases hki : k = i
    · rw [if_pos hki, if_pos (by rw [e]; simp [hki])]
      simp only [upd, if_pos hki]
      omega
    · have hik : decide (i = k) = false := by simp; omega
      rw [if_neg hki, e, hik, Bool.or_false]
      simp only [upd, if_neg hki]
end Go.Proofs.YtkeeledkdoiglaaDoor.Wh
