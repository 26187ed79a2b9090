/- Plain laws on seals and bursts. -/
import Derived.Test.YtpkgpffodkfncaaCrcPlain
namespace Go.Proofs.Ytpkgpffodkfncaa.Crc
theorem more_append (s : Nat) (a b : List UInt8) : more s (a ++ b) = more (more s a) b := by simp [more]
theorem more_cons (s : Nat) (c : UInt8) (l : List UInt8) : more s (c :: l) = more (step s c.toNat) l := rfl
theorem more_nil (s : Nat) : more s [] = s := rfl
theorem rsealed_eq (s : ByteArray) : rsealed s = sealed s := by
  unfold rsealed sealed
  rw [more_eq 65535 (by decide)]
/-! ### 1. A seal -/
theorem seal_zero {u : Nat} (hu : u < 65536) : step (step u (u / 256)) (u % 256) = 0 := by
  have hl : ∀ x y, x < 2 ^ 16 → y < 2 ^ 16 → step (step (x ^^^ y) ((x ^^^ y) / 256)) ((x ^^^ y) % 256) = step (step x (x / 256)) (x % 256) ^^^ step (step y (y / 256)) (y % 256) := fun x y _ _ => by
    have h1 : (x ^^^ y) / 256 = x / 256 ^^^ y / 256 := div_pow_xor 8 x y
    have h2 : (x ^^^ y) % 256 = x % 256 ^^^ y % 256 := mod_pow_xor 8 x y
    rw [h1, h2, step_lin, step_lin]
  exact lin_ext 16 (fun u => step (step u (u / 256)) (u % 256)) (fun _ => 0) hl (fun _ _ _ _ => rfl) (by decide +kernel) 16 (Nat.le_refl _) u hu
theorem bit1_zero {x : Nat} (h : bit1 x = 0) : x = 0 := by
  unfold bit1 at h
  split at h
  · rename_i h2
    have : 2 * x - 65536 = 4129 := by
      have e := congrArg (· ^^^ 4129) h
      simpa [Nat.xor_assoc] using e
    omega
  · omega
theorem bits8_zero : ∀ (k : Nat) {x : Nat}, bits8 k x = 0 → x = 0
  | 0, _, h => h
  | k + 1, _, h => bits8_zero k (bit1_zero h)
theorem step0_zero {x : Nat} (hx : x < 65536) (h : step x 0 = 0) : x = 0 := by
  rw [step_eq hx (by decide)] at h
  have := bits8_zero 8 h
  simpa using this
theorem zs_zero {x : Nat} (hx : x < 65536) : ∀ n, zs x n = 0 → x = 0 := by
  intro n
  induction n generalizing x with
  | zero => exact fun h => h
  | succ n ih => exact fun h => step0_zero hx (ih (step_lt x 0) h)
theorem one_byte {c : Nat} (hc : c < 256) (h : step 0 c = 0) : c = 0 := by
  rw [step_eq (by decide) hc] at h
  have h2 := bits8_zero 8 h
  rw [Nat.zero_xor] at h2
  omega
theorem two_bytes_eq {y : Nat} (hy : y < 65536) : step (step 0 (y / 256)) (y % 256) = bits8 16 y := by
  have hl : ∀ x y, x < 2 ^ 16 → y < 2 ^ 16 → step (step 0 ((x ^^^ y) / 256)) ((x ^^^ y) % 256) = step (step 0 (x / 256)) (x % 256) ^^^ step (step 0 (y / 256)) (y % 256) := fun x y _ _ => by
    have h1 : (x ^^^ y) / 256 = x / 256 ^^^ y / 256 := div_pow_xor 8 x y
    have h2 : (x ^^^ y) % 256 = x % 256 ^^^ y % 256 := mod_pow_xor 8 x y
    have e := step_lin 0 0 (x / 256) (y / 256)
    rw [Nat.xor_self] at e
    rw [h1, h2, e, step_lin]
  exact lin_ext 16 (fun y => step (step 0 (y / 256)) (y % 256)) (fun y => bits8 16 y) hl (fun x y hx hy => bits8_lin 16 hx hy) (by decide +kernel) 16 (Nat.le_refl _) y hy
theorem two_bytes {a b : Nat} (ha : a < 256) (hb : b < 256) (h : step (step 0 a) b = 0) : a = 0 ∧ b = 0 := by
  have e := two_bytes_eq (y := a * 256 + b) (by omega)
  rw [show (a * 256 + b) / 256 = a from by omega, show (a * 256 + b) % 256 = b from by omega, h] at e
  have := bits8_zero 16 e.symm
  omega
/-- A burst over three bytes, from bit r of the first one on. -/
def over3 (r p : Nat) : Nat := step (step (step 0 (p * 2 ^ (8 - r) / 2 ^ 16 % 256)) (p * 2 ^ (8 - r) / 2 ^ 8 % 256)) (p * 2 ^ (8 - r) / 2 ^ 0 % 256)
theorem over3_lin (r x y : Nat) : over3 r (x ^^^ y) = over3 r x ^^^ over3 r y := by
  have h : ∀ j, (x ^^^ y) * 2 ^ (8 - r) / 2 ^ j % 256 = x * 2 ^ (8 - r) / 2 ^ j % 256 ^^^ y * 2 ^ (8 - r) / 2 ^ j % 256 := fun j => by
    rw [mul_pow_xor, div_pow_xor]
    exact mod_pow_xor 8 _ _
  unfold over3
  rw [h 16, h 8, h 0]
  have e := step_lin 0 0 (x * 2 ^ (8 - r) / 2 ^ 16 % 256) (y * 2 ^ (8 - r) / 2 ^ 16 % 256)
  rw [Nat.xor_self] at e
  rw [e, step_lin, step_lin]
theorem over3_basis : ∀ r : Fin 8, ∀ i : Fin 16, over3 r.val (2 ^ i.val) = bits8 (24 - r.val) (2 ^ i.val) := by decide +kernel
theorem over3_zero {r p : Nat} (hr : r < 8) (hp : p < 65536) (h : over3 r p = 0) : p = 0 := by
  have e : over3 r p = bits8 (24 - r) p := lin_ext 16 (fun p => over3 r p) (fun p => bits8 (24 - r) p) (fun x y _ _ => over3_lin r x y) (fun x y hx hy => bits8_lin (24 - r) hx hy) (fun i hi => over3_basis ⟨r, hr⟩ ⟨i, hi⟩) 16 (Nat.le_refl _) p hp
  rw [h] at e
  exact bits8_zero _ e.symm
end Go.Proofs.Ytpkgpffodkfncaa.Crc
