/- Wheel: OnesCount16. -/
import Derived.Test.YtkeeledkdoiglaaDoorWhRef2
namespace Go.Proofs.YtkeeledkdoiglaaDoor.Wh
open Go.RowKit Go.Proofs.YtkeeledkdoiglaaDoor
def tab8 : ByteArray := ⟨#[0, 1, 1, 2, 1, 2, 2, 3, 1, 2, 2, 3, 2, 3, 3, 4, 1, 2, 2, 3, 2, 3, 3, 4, 2, 3, 3, 4, 3, 4, 4, 5, 1, 2, 2, 3, 2, 3, 3, 4, 2, 3, 3, 4, 3, 4, 4, 5, 2, 3, 3, 4, 3, 4, 4, 5, 3, 4, 4, 5, 4, 5, 5, 6, 1, 2, 2, 3, 2, 3, 3, 4, 2, 3, 3, 4, 3, 4, 4, 5, 2, 3, 3, 4, 3, 4, 4, 5, 3, 4, 4, 5, 4, 5, 5, 6, 2, 3, 3, 4, 3, 4, 4, 5, 3, 4, 4, 5, 4, 5, 5, 6, 3, 4, 4, 5, 4, 5, 5, 6, 4, 5, 5, 6, 5, 6, 6, 7, 1, 2, 2, 3, 2, 3, 3, 4, 2, 3, 3, 4, 3, 4, 4, 5, 2, 3, 3, 4, 3, 4, 4, 5, 3, 4, 4, 5, 4, 5, 5, 6, 2, 3, 3, 4, 3, 4, 4, 5, 3, 4, 4, 5, 4, 5, 5, 6, 3, 4, 4, 5, 4, 5, 5, 6, 4, 5, 5, 6, 5, 6, 6, 7, 2, 3, 3, 4, 3, 4, 4, 5, 3, 4, 4, 5, 4, 5, 5, 6, 3, 4, 4, 5, 4, 5, 5, 6, 4, 5, 5, 6, 5, 6, 6, 7, 3, 4, 4, 5, 4, 5, 5, 6, 4, 5, 5, 6, 5, 6, 6, 7, 4, 5, 5, 6, 5, 6, 6, 7, 5, 6, 6, 7, 6, 7, 7, 8]⟩
/-- How many of the first k bits. -/
def pc (x : Nat) : Nat → Nat
  | 0 => 0
  | k + 1 => pc x k + (x.testBit k).toNat
theorem tab8_size : tab8.size = 256 := by decide +kernel
theorem tab8_at (b : Nat) (h : b < 256) : (tab8[b]'(by rw [tab8_size]; exact h)).toNat = pc b 8 := by
  have : ∀ k : Fin 256, (tab8[k.val]'(by rw [tab8_size]; exact k.isLt)).toNat = pc k.val 8 := by decide +kernel
  exact this ⟨b, h⟩
theorem pc_split (x : Nat) : pc x 16 = pc (x % 256) 8 + pc (x / 256) 8 := by
  have h1 : ∀ i, i < 8 → (x % 256).testBit i = x.testBit i := fun i hi => by
    rw [show 256 = 2 ^ 8 from rfl, Nat.testBit_mod_two_pow]; simp [hi]
  have h2 : ∀ i, (x / 256).testBit i = x.testBit (8 + i) := fun i => by
    rw [show 256 = 2 ^ 8 from rfl, Nat.testBit_div_two_pow, Nat.add_comm]
  simp only [pc, h1 0 (by decide), h1 1 (by decide), h1 2 (by decide), h1 3 (by decide), h1 4 (by decide), h1 5 (by decide), h1 6 (by decide), h1 7 (by decide), h2, Nat.reduceAdd, Nat.add_zero, Nat.zero_add]
  omega
theorem pc_le (x : Nat) : ∀ k, pc x k ≤ k
  | 0 => Nat.le_refl _
  | k + 1 => by
    have := pc_le x k
    have h : (x.testBit k).toNat ≤ 1 := by cases x.testBit k <;> decide
    simp only [pc]; omega
set_option maxRecDepth 100000 in
theorem ones16 (x : Nat) (hx : x < 65536) (w : World) :
    Calls Tryd.prog 28 #[.int .u16 (x : Int)] w fun e w' => e = .returned (.int .i64 (pc x 16 : Nat)) ∧ ∃ k, w' = w.drewN k := by
  have h1 : bits BinOp.and IntKind.u16 (x : Int) 255 = ((x % 256 : Nat) : Int) := by
    rw [show (255 : Int) = ((255 : Nat) : Int) from rfl, and16 x 255 hx (by decide), Nat.and_two_pow_sub_one_eq_mod x 8]
  obtain ⟨hi, hhi⟩ : ∃ hi : Nat, x / 256 = hi := ⟨_, rfl⟩
  obtain ⟨lo, hlo⟩ : ∃ lo : Nat, x % 256 = lo := ⟨_, rfl⟩
  have hpc := pc_split x
  rw [hhi, hlo] at hpc
  have HPC := Lib.hid hpc
  rw [hlo] at h1
  have hhx : (x : Int) / 256 = (hi : Int) := by omega
  have hh : hi < 256 := by omega
  have hl : lo < 256 := by omega
  have hhi' : (hi : Int) < 256 := by omega
  have hli' : (lo : Int) < 256 := by omega
  have e1 := tab8_at hi hh
  have e2 := tab8_at lo hl
  have p1 := pc_le hi 8
  have p2 := pc_le lo 8
  have HE : Hid ((((tab8[hi]'(by rw [tab8_size]; exact hh)).toNat : Int) + ((tab8[lo]'(by rw [tab8_size]; exact hl)).toNat : Int)) % 256 = ((pc x 16 : Nat) : Int)) := Lib.hid (by rw [e1, e2, hpc]; omega)
  clear e1 e2 p1 p2 hpc hhi hlo
  go_enter Tryd.func28, Tryd.ntmps28
  go_wp2_with fail
  go_quiet (fail)
  go_wp2
  go_ret
  exact ⟨by rw [← HE.out]; rfl, _, rfl⟩
end Go.Proofs.YtkeeledkdoiglaaDoor.Wh
