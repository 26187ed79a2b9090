/- math/bits.TrailingZeros32 off its table; strconv.Itoa of small numbers; strings.Join. -/
import Derived.Test.YtmehafolnpkmhaaDoorLaid4
import Derived.Test.YtmehafolnpkmhaaDoorProg
import Derived.Lib.TrailingZeros
import Derived.Lib.SmallJoins
import Derived.BigQuiet
import Derived.ProofKit
namespace Go.Proofs.YtmehafolnpkmhaaDoor
open Go.RowKit
theorem laidW_below {w w' : World} {B : Nat} (h : LaidW w) (hb : Below B w w') (hB : w.heap.size ≤ B) : LaidW w' := Go.Joins.tab_stays g32 h hb hB
theorem laidW_heap {w w' : World} (h : LaidW w) (he : w'.heap = w.heap) : LaidW w' := by
  unfold LaidW Lib.TabIs World.var? at *
  rw [he]
  exact h
theorem tab32_at : ∀ k, k < 32 → 2 ^ k * 125613361 % 4294967296 / 134217728 < 32 ∧ tab32.getD (2 ^ k * 125613361 % 4294967296 / 134217728) 0 = ((k : Nat) : Int) := by decide +kernel
theorem and_u32_nat (a b : Nat) (ha : a < 4294967296) (hb : b < 4294967296) : bits .and .u32 (a : Int) (b : Int) = ((a &&& b : Nat) : Int) := by
  have hx : a &&& b < 2 ^ 32 := Nat.and_lt_two_pow _ (by omega)
  have h1 : (BitVec.ofInt 32 (a : Int)).toNat = a := by
    rw [BitVec.ofInt_natCast, BitVec.toNat_ofNat]; exact Nat.mod_eq_of_lt (by omega)
  have h2 : (BitVec.ofInt 32 (b : Int)).toNat = b := by
    rw [BitVec.ofInt_natCast, BitVec.toNat_ofNat]; exact Nat.mod_eq_of_lt (by omega)
  show IntKind.u32.wrap ((BitVec.ofInt 32 (a : Int) &&& BitVec.ofInt 32 (b : Int)).toNat : Int) = _
  rw [BitVec.toNat_and, h1, h2, IntKind.wrap_u32']
  omega
theorem tz32_key (x a : Nat) (hx : x < 4294967296) (hx0 : x ≠ 0) (hlow : x &&& (4294967296 - x) = a) :
    bits BinOp.and IntKind.u32 (x : Int) (-(x : Int) % 4294967296) * 125613361 % 4294967296 / 134217728 = ((a * 125613361 % 4294967296 / 134217728 : Nat) : Int) := by
  have e1 : -(x : Int) % 4294967296 = ((4294967296 - x : Nat) : Int) := by omega
  rw [e1, and_u32_nat x _ hx (by omega), hlow]
  omega
theorem tz32_core (x k idx : Nat) (w : World) (hx0 : ((x : Int) == 0) = false)
    (key : bits BinOp.and IntKind.u32 (x : Int) (-(x : Int) % 4294967296) * 125613361 % 4294967296 / 134217728 = (idx : Int))
    (hi : idx < 32) (hk : k < 32) (hcell : w.cell? ⟨0, idx, none⟩ = some (.int .u8 k)) :
    Calls Tryd.prog 82 #[.int .u32 x] w fun e w' => e = .returned (.int .i64 k) ∧ w' = w := by
  go_enter Tryd.func82, Tryd.ntmps82
  go_wp2_with (simp only [key])
  go_ret
  exact ⟨rfl, rfl⟩
theorem tz32_zero (w : World) : Calls Tryd.prog 82 #[.int .u32 0] w fun e w' => e = .returned (.int .i64 32) ∧ w' = w := by
  go_enter Tryd.func82, Tryd.ntmps82
  go_wp2
  go_ret
  exact ⟨rfl, rfl⟩
theorem tz32_any (x : Nat) (hx : x < 4294967296) (w : World) (hG : LaidW w) :
    Calls Tryd.prog 82 #[.int .u32 x] w fun e w' => e = .returned (.int .i64 (Lib.ctz 32 x : Nat)) ∧ w' = w := by
  by_cases hx0 : x = 0
  · subst hx0
    exact tz32_zero w
  · obtain ⟨hlow, hk⟩ := Lib.lowest_bit 32 x hx0 hx
    obtain ⟨hi, ht⟩ := tab32_at _ hk
    have hcell := Lib.TabIs.cell hG g32 _ (Nat.lt_of_lt_of_eq hi (show 32 = tab32.length from rfl))
    rw [ht] at hcell
    exact tz32_core x _ _ w (by simp; omega) (tz32_key x _ hx hx0 hlow) hi hk hcell
end Go.Proofs.YtmehafolnpkmhaaDoor
