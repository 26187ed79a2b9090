/- Plain laws on both texts' sums: they are linear, and alike. -/
import Derived.Test.YtpkgpffodkfncaaCrcSpec
namespace Go.Proofs.Ytpkgpffodkfncaa.Crc
/-! ### 1. What is linear -/
theorem xor_swap (a b c d : Nat) : (a ^^^ b) ^^^ (c ^^^ d) = (a ^^^ c) ^^^ (b ^^^ d) := by
  rw [Nat.xor_assoc, ← Nat.xor_assoc b, Nat.xor_comm b c, Nat.xor_assoc c, ← Nat.xor_assoc]
theorem mul_pow_xor (i x y : Nat) : (x ^^^ y) * 2 ^ i = x * 2 ^ i ^^^ y * 2 ^ i := by
  rw [← Nat.shiftLeft_eq, ← Nat.shiftLeft_eq, ← Nat.shiftLeft_eq, Nat.shiftLeft_xor_distrib]
theorem div_pow_xor (i x y : Nat) : (x ^^^ y) / 2 ^ i = x / 2 ^ i ^^^ y / 2 ^ i := by
  rw [← Nat.shiftRight_eq_div_pow, ← Nat.shiftRight_eq_div_pow, ← Nat.shiftRight_eq_div_pow, Nat.shiftRight_xor_distrib]
theorem mod_pow_xor (i x y : Nat) : (x ^^^ y) % 2 ^ i = x % 2 ^ i ^^^ y % 2 ^ i := Nat.xor_mod_two_pow
theorem qt_lin (x y : Nat) : qt (x ^^^ y) = qt x ^^^ qt y := by
  have h : ∀ a b : Fin 16, tab.getD (a.val ^^^ b.val) 0 = tab.getD a.val 0 ^^^ tab.getD b.val 0 := by decide
  unfold qt
  rw [show (16 : Nat) = 2 ^ 4 from rfl, mod_pow_xor]
  exact h ⟨x % 2 ^ 4, Nat.mod_lt _ (by decide)⟩ ⟨y % 2 ^ 4, Nat.mod_lt _ (by decide)⟩
theorem step_lin (s t c d : Nat) : step (s ^^^ t) (c ^^^ d) = step s c ^^^ step t d := by
  unfold step
  dsimp only
  have h16 : ∀ x y : Nat, (x ^^^ y) * 16 % 65536 = x * 16 % 65536 ^^^ y * 16 % 65536 := fun x y => by
    have := mod_pow_xor 16 (x * 2 ^ 4) (y * 2 ^ 4)
    rw [← mul_pow_xor] at this
    exact this
  have h12 : ∀ x y : Nat, (x ^^^ y) / 4096 = x / 4096 ^^^ y / 4096 := div_pow_xor 12
  have h4 : ∀ x y : Nat, (x ^^^ y) / 16 = x / 16 ^^^ y / 16 := div_pow_xor 4
  rw [h16 s t, h12 s t, h4, xor_swap (s / 4096), qt_lin, xor_swap (s * 16 % 65536)]
  generalize s * 16 % 65536 ^^^ qt (s / 4096 ^^^ c / 16) = a
  generalize t * 16 % 65536 ^^^ qt (t / 4096 ^^^ d / 16) = b
  rw [h16, h12, xor_swap (a / 4096), qt_lin, xor_swap]
theorem bit1_eq {n : Nat} (h : n < 65536) : bit1 n = n * 2 % 65536 ^^^ n / 32768 * 4129 := by
  unfold bit1
  split
  · rw [show n / 32768 = 1 from by omega, show n * 2 % 65536 = 2 * n - 65536 from by omega]
  · rw [show n / 32768 = 0 from by omega, show n * 2 % 65536 = 2 * n from by omega]
    simp
theorem bit1_lin {x y : Nat} (hx : x < 65536) (hy : y < 65536) : bit1 (x ^^^ y) = bit1 x ^^^ bit1 y := by
  have hxy : x ^^^ y < 65536 := Nat.xor_lt_two_pow (n := 16) hx hy
  rw [bit1_eq hxy, bit1_eq hx, bit1_eq hy]
  have h1 : (x ^^^ y) * 2 % 65536 = x * 2 % 65536 ^^^ y * 2 % 65536 := by
    have := mod_pow_xor 16 (x * 2 ^ 1) (y * 2 ^ 1)
    rw [← mul_pow_xor] at this
    exact this
  have h2 : (x ^^^ y) / 32768 = x / 32768 ^^^ y / 32768 := div_pow_xor 15 x y
  have h3 : ∀ a b : Fin 2, (a.val ^^^ b.val) * 4129 = a.val * 4129 ^^^ b.val * 4129 := by decide
  rw [h1, h2, h3 ⟨x / 32768, by omega⟩ ⟨y / 32768, by omega⟩, xor_swap]
theorem bits8_lin (k : Nat) {x y : Nat} (hx : x < 65536) (hy : y < 65536) : bits8 k (x ^^^ y) = bits8 k x ^^^ bits8 k y := by
  induction k with
  | zero => rfl
  | succ k ih => rw [bits8, bits8, bits8, ih, bit1_lin (bits8_lt k hx) (bits8_lt k hy)]
theorem rstep_lin {s t c d : Nat} (hs : s < 65536) (ht : t < 65536) (hc : c < 256) (hd : d < 256) : rstep (s ^^^ t) (c ^^^ d) = rstep s c ^^^ rstep t d := by
  unfold rstep
  have h : (c ^^^ d) * 256 = c * 256 ^^^ d * 256 := mul_pow_xor 8 c d
  rw [h, xor_swap, bits8_lin 8 (Nat.xor_lt_two_pow (n := 16) hs (by omega)) (Nat.xor_lt_two_pow (n := 16) ht (by omega))]
/-- Two that are linear, and alike at each bit, are alike. -/
theorem lin_ext (m : Nat) (f g : Nat → Nat) (hf : ∀ x y, x < 2 ^ m → y < 2 ^ m → f (x ^^^ y) = f x ^^^ f y) (hg : ∀ x y, x < 2 ^ m → y < 2 ^ m → g (x ^^^ y) = g x ^^^ g y)
    (hb : ∀ i, i < m → f (2 ^ i) = g (2 ^ i)) : ∀ k, k ≤ m → ∀ x, x < 2 ^ k → f x = g x := by
  have h0 : ∀ (f : Nat → Nat), (∀ x y, x < 2 ^ m → y < 2 ^ m → f (x ^^^ y) = f x ^^^ f y) → f 0 = 0 := fun f hf => by
    have := hf 0 0 (Nat.two_pow_pos m) (Nat.two_pow_pos m)
    rw [Nat.xor_self, Nat.xor_self] at this
    exact this
  intro k
  induction k with
  | zero =>
    intro _ x hx
    obtain rfl : x = 0 := by simp at hx; exact hx
    rw [h0 f hf, h0 g hg]
  | succ k ih =>
    intro hk x hx
    have hkm : 2 ^ k < 2 ^ m := Nat.pow_lt_pow_right (by decide) hk
    rcases Nat.lt_or_ge x (2 ^ k) with h | h
    · exact ih (by omega) x h
    · have hlow : x ^^^ 2 ^ k < 2 ^ k := by
        apply Nat.lt_pow_two_of_testBit
        intro i hi
        rw [Nat.testBit_xor, Nat.testBit_two_pow]
        by_cases e : k = i
        · subst e
          have : x / 2 ^ k = 1 := by
            rw [Nat.pow_succ] at hx
            exact Nat.div_eq_of_lt_le (by omega) (by omega)
          simp [Nat.testBit_eq_decide_div_mod_eq, this]
        · have : x < 2 ^ i := Nat.lt_of_lt_of_le hx (Nat.pow_le_pow_right (by decide) (by omega))
          simp [Nat.testBit_lt_two_pow this, e]
      have e : x = (x ^^^ 2 ^ k) ^^^ 2 ^ k := by rw [Nat.xor_assoc, Nat.xor_self, Nat.xor_zero]
      rw [e, hf _ _ (by omega) hkm, hg _ _ (by omega) hkm, ih (by omega) _ hlow, hb k (by omega)]
theorem step_eq {s c : Nat} (hs : s < 65536) (hc : c < 256) : step s c = rstep s c := by
  have e1 : step s c = step s 0 ^^^ step 0 c := by
    have := step_lin s 0 0 c
    rw [Nat.xor_zero, Nat.zero_xor] at this
    exact this
  have e2 : rstep s c = rstep s 0 ^^^ rstep 0 c := by
    have := rstep_lin hs (by decide : (0 : Nat) < 65536) (by decide : (0 : Nat) < 256) hc
    rw [Nat.xor_zero, Nat.zero_xor] at this
    exact this
  have k1 : ∀ x y, step (x ^^^ y) 0 = step x 0 ^^^ step y 0 := fun x y => by
    have := step_lin x y 0 0
    rw [Nat.xor_self] at this
    exact this
  have k2 : ∀ x y, x < 2 ^ 16 → y < 2 ^ 16 → rstep (x ^^^ y) 0 = rstep x 0 ^^^ rstep y 0 := fun x y hx hy => by
    have := rstep_lin hx hy (by decide : (0 : Nat) < 256) (by decide : (0 : Nat) < 256)
    rw [Nat.xor_self] at this
    exact this
  have f1 : step s 0 = rstep s 0 := lin_ext 16 (fun s => step s 0) (fun s => rstep s 0) (fun x y _ _ => k1 x y) k2 (by decide +kernel) 16 (Nat.le_refl _) s hs
  have l1 : ∀ x y, step 0 (x ^^^ y) = step 0 x ^^^ step 0 y := fun x y => by
    have := step_lin 0 0 x y
    rw [Nat.xor_self] at this
    exact this
  have l2 : ∀ x y, x < 2 ^ 8 → y < 2 ^ 8 → rstep 0 (x ^^^ y) = rstep 0 x ^^^ rstep 0 y := fun x y hx hy => by
    have := rstep_lin (by decide : (0 : Nat) < 65536) (by decide : (0 : Nat) < 65536) hx hy
    rw [Nat.xor_self] at this
    exact this
  have f2 : step 0 c = rstep 0 c := lin_ext 8 (fun c => step 0 c) (fun c => rstep 0 c) (fun x y _ _ => l1 x y) l2 (by decide +kernel) 8 (Nat.le_refl _) c hc
  rw [e1, e2, f1, f2]
theorem more_eq (s : Nat) (h : s < 65536) (l : List UInt8) : more s l = rmore s l := by
  unfold more rmore
  induction l generalizing s with
  | nil => simp
  | cons c l ih =>
    have h1 := step_eq h (UInt8.toNat_lt c)
    have h2 := rstep_lt h (UInt8.toNat_lt c)
    rw [List.foldl_cons, List.foldl_cons, h1]
    generalize rstep s c.toNat = t at *
    exact ih t h2
/-! ### 2. Bytes 0 -/
def zs : Nat → Nat → Nat
  | s, 0 => s
  | s, n + 1 => zs (step s 0) n
def join (a b : Nat) (n : Int) : Nat := if n < 0 then a else zs (a ^^^ 65535) n.toNat ^^^ b
theorem zs_lt {s : Nat} (h : s < 65536) (n : Nat) : zs s n < 65536 := by
  induction n generalizing s with
  | zero => exact h
  | succ n ih => exact ih (step_lt s 0)
theorem zs_add (s a b : Nat) : zs s (a + b) = zs (zs s a) b := by
  induction a generalizing s with
  | zero => simp [zs]
  | succ a ih => rw [Nat.succ_add, zs, zs, ih]
theorem step0_lin (s t : Nat) : step (s ^^^ t) 0 = step s 0 ^^^ step t 0 := by
  have := step_lin s t 0 0
  rw [Nat.xor_self] at this
  exact this
theorem zs_odd (s c k : Nat) (h : k % 2 = 1) : zs (zs s c) (2 * c * (k / 2)) = zs s (c * k) := by
  rw [← zs_add]
  congr 1
  have e : k = 1 + 2 * (k / 2) := by omega
  generalize k / 2 = j at *
  subst e
  rw [Nat.mul_add, Nat.mul_one, Nat.mul_comm 2 c, Nat.mul_assoc]
theorem zs_even (s c k : Nat) (h : ¬ k % 2 = 1) : zs s (2 * c * (k / 2)) = zs s (c * k) := by
  congr 1
  have e : k = 2 * (k / 2) := by omega
  generalize k / 2 = j at *
  subst e
  rw [Nat.mul_comm 2 c, Nat.mul_assoc]
theorem zs_lin (s t n : Nat) : zs (s ^^^ t) n = zs s n ^^^ zs t n := by
  induction n generalizing s t with
  | zero => rfl
  | succ n ih => rw [zs, zs, zs, step0_lin, ih]
theorem more_zeros (s n : Nat) : more s (List.replicate n 0) = zs s n := by
  induction n generalizing s with
  | zero => rfl
  | succ n ih =>
    rw [List.replicate_succ]
    exact ih (step s 0)
theorem more_one (s : Nat) : more s [0] = zs s 1 := rfl
theorem timesTo_lin (m : List Nat) (s t k : Nat) : timesTo m (s ^^^ t) k = timesTo m s k ^^^ timesTo m t k := by
  induction k with
  | zero => simp [timesTo]
  | succ k ih =>
    unfold timesTo
    rw [ih, div_pow_xor]
    have hx : (s / 2 ^ k ^^^ t / 2 ^ k) % 2 = s / 2 ^ k % 2 ^^^ t / 2 ^ k % 2 := mod_pow_xor 1 _ _
    rw [hx]
    have h1 : s / 2 ^ k % 2 = 0 ∨ s / 2 ^ k % 2 = 1 := by omega
    have h2 : t / 2 ^ k % 2 = 0 ∨ t / 2 ^ k % 2 = 1 := by omega
    generalize timesTo m s k = a
    generalize timesTo m t k = b
    generalize m.getD k 0 = c
    rcases h1 with h1 | h1 <;> rcases h2 with h2 | h2 <;> rw [h1, h2]
    · simp
    · simp [Nat.xor_assoc]
    · simp only [Nat.xor_zero, if_true, show ¬ (0 : Nat) = 1 from by decide, if_false]
      rw [Nat.xor_assoc, Nat.xor_assoc, Nat.xor_comm b c]
    · simp only [Nat.xor_self, show ¬ (0 : Nat) = 1 from by decide, if_false, if_true]
      rw [xor_swap, Nat.xor_self, Nat.xor_zero]
theorem timesTo_pow (m : List Nat) (i : Nat) : ∀ k, timesTo m (2 ^ i) k = if i < k then m.getD i 0 else 0
  | 0 => rfl
  | k + 1 => by
    unfold timesTo
    rw [timesTo_pow m i k]
    by_cases e : i = k
    · subst e
      rw [Nat.div_self (Nat.two_pow_pos i)]
      simp
    · by_cases h : i < k
      · rw [Nat.div_eq_of_lt (Nat.pow_lt_pow_right (by decide) h), if_neg (by decide), if_pos h, if_pos (by omega)]
      · have h2 : 2 ^ i / 2 ^ k % 2 = 0 := by
          rw [Nat.pow_div (by omega) (by decide), show i - k = (i - k - 1) + 1 from by omega, Nat.pow_succ]
          omega
        rw [h2, if_neg (by decide), if_neg h, if_neg (by omega)]
theorem pow_lt16 {i : Nat} (h : i < 16) : 2 ^ i < 65536 := Nat.pow_lt_pow_right (a := 2) (by decide) h
/-- A matrix of so many bytes 0. -/
structure IsMat (m : List Nat) (c : Nat) : Prop where
  len : m.length = 16
  lt : ∀ x ∈ m, x < 65536
  does : ∀ s, s < 65536 → timesTo m s 16 = zs s c
theorem isMat_of {m : List Nat} {c : Nat} (hl : m.length = 16) (h : ∀ i, i < 16 → m.getD i 0 = zs (2 ^ i) c) : IsMat m c := by
  refine ⟨hl, fun x hx => ?_, fun s hs => ?_⟩
  · obtain ⟨i, hi, rfl⟩ := List.getElem_of_mem hx
    have := h i (by omega)
    rw [List.getD_eq_getElem?_getD, List.getElem?_eq_getElem hi, Option.getD_some] at this
    rw [this]
    exact zs_lt (pow_lt16 (by omega)) c
  · refine lin_ext 16 (fun s => timesTo m s 16) (fun s => zs s c) (fun x y _ _ => timesTo_lin m x y 16) (fun x y _ _ => zs_lin x y c) (fun i hi => ?_) 16 (Nat.le_refl _) s hs
    show timesTo m (2 ^ i) 16 = zs (2 ^ i) c
    rw [timesTo_pow, if_pos hi]
    exact h i hi
theorem isMat_one : IsMat one 1 := isMat_of (by simp [one]) fun i hi => by
  simp [one, List.getD_eq_getElem?_getD, hi, more_one]
theorem isMat_twice {m : List Nat} {c : Nat} (h : IsMat m c) : IsMat (twice m) (2 * c) := isMat_of (by simp [twice]) fun i hi => by
  have hx : m.getD i 0 < 65536 := getD_lt h.lt i
  have e : (twice m).getD i 0 = timesTo m (m.getD i 0) 16 := by simp [twice, List.getD_eq_getElem?_getD, hi]
  have e2 := h.does (2 ^ i) (pow_lt16 hi)
  rw [timesTo_pow, if_pos hi] at e2
  rw [e, h.does _ hx, e2, ← zs_add, Nat.two_mul]
end Go.Proofs.Ytpkgpffodkfncaa.Crc
