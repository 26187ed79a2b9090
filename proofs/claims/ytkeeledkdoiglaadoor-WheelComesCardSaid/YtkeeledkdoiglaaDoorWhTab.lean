/- Wheel: the table of TrailingZeros16; TrailingZeros16. -/
import Derived.Test.YtkeeledkdoiglaaDoorRows
import Derived.Test.YtkeeledkdoiglaaDoorWhBase
import Derived.WalkKit
import Derived.LaidMore
import Derived.Lib.LaidTab
import Derived.Below
import Derived.Lib.TrailingZeros
import Derived.ProofKit
import Derived.Lib.SmallJoins
namespace Go.Proofs.YtkeeledkdoiglaaDoor
open Go.RowKit
theorem tabIs_of_vars {P : Program} {W : World} {name : String} {k : IntKind} {zs : List Int} {g : Nat} {t e : TypeId} {n : Nat}
    (hg : P.globalNamed name = some g) (hty : (P.globals[g]?).map (·.type) = some t) (ht : P.underlying t = some (.array n e)) (he : P.underlying e = some (.int k)) (hce : P.cellsOf e = 1) (hct : P.cellsOf t = n) :
    ∀ (laid : List (String × DataW Unit)) (ps : List MemPlace), DataW.LaidVars P W laid ps → (name, Lib.tabData k zs) ∈ laid → Lib.TabIs P W name k zs
  | [], _, _, hm => by cases hm
  | (m, d) :: r, ps, h, hm => by
    obtain ⟨g', t', cs, fuel, p, q, hg', ht', hvar, hd, hr, _⟩ := h
    rcases List.mem_cons.1 hm with he1 | hm
    · obtain ⟨rfl, rfl⟩ := Prod.mk.inj he1
      obtain rfl := Option.some.inj (hg.symm.trans hg')
      obtain rfl := Option.some.inj (hty.symm.trans ht')
      unfold Lib.TabIs
      rw [hvar, ← Lib.cells_of_tab ht he hce hct hd]
    · exact tabIs_of_vars hg hty ht he hce hct r q hr hm
def tab32 : List Int := [0, 1, 28, 2, 29, 14, 24, 3, 30, 22, 20, 15, 25, 17, 4, 8, 31, 27, 13, 23, 21, 19, 16, 7, 26, 12, 18, 6, 11, 5, 10, 9]
/-- What every walk asks of the world: the table of TrailingZeros32. -/
def LaidW (w : World) : Prop := Lib.TabIs Tryd.prog w "math/bits.deBruijn32tab" .u8 tab32
theorem g32 : Tryd.prog.globalNamed "math/bits.deBruijn32tab" = some 0 := by kernel_rfl
theorem laidW_of {w : World} (h : laidMetH Tryd.prog Rows.wheelRunsRow.laid w) : LaidW w := by
  rw [MakeChecks.laidMetH_plain _ _ _ (by kernel_rfl)] at h
  obtain ⟨ps, hv, _, _⟩ := h
  exact tabIs_of_vars g32 (t := 76) (by kernel_rfl) Tryd.underlying76 Tryd.underlying5 (by kernel_rfl) (by kernel_rfl) _ ps hv (.head _)
theorem laidW_below {w w' : World} {B : Nat} (h : LaidW w) (hb : Below B w w') (hB : w.heap.size ≤ B) : LaidW w' := Go.Joins.tab_stays g32 h hb hB
theorem laidW_heap {w w' : World} (h : LaidW w) (he : w'.heap = w.heap) : LaidW w' := by
  unfold LaidW Lib.TabIs World.var? at *
  rw [he]
  exact h
theorem tab32_at : ∀ k, k < 32 → 2 ^ k * 125613361 % 4294967296 / 134217728 < 32 ∧ tab32.getD (2 ^ k * 125613361 % 4294967296 / 134217728) 0 = ((k : Nat) : Int) := by decide +kernel
theorem tz16_key (x a : Nat) (hx : x < 65536) (hx0 : x ≠ 0) (hlow : x &&& (65536 - x) = a) (ha : a < 65536) :
    bits BinOp.and IntKind.u16 (x : Int) (IntKind.u16.wrap (-(x : Int))) % 4294967296 * 125613361 % 4294967296 / 134217728 = ((a * 125613361 % 4294967296 / 134217728 : Nat) : Int) := by
  have e1 : IntKind.u16.wrap (-(x : Int)) = ((65536 - x : Nat) : Int) := by
    simp [IntKind.wrap, IntKind.bits, IntKind.signed]
    omega
  rw [e1, Wh.and16 x _ hx (by omega), hlow]
  omega
theorem tz16_core (x k idx : Nat) (w : World) (hx0 : ((x : Int) == 0) = false)
    (key : bits BinOp.and IntKind.u16 (x : Int) (IntKind.u16.wrap (-(x : Int))) % 4294967296 * 125613361 % 4294967296 / 134217728 = (idx : Int))
    (hi : idx < 32) (hk : k < 32) (hcell : w.cell? ⟨0, idx, none⟩ = some (.int .u8 k)) :
    Calls Tryd.prog 25 #[.int .u16 x] w fun e w' => e = .returned (.int .i64 k) ∧ w' = w := by
  go_enter Tryd.func25, Tryd.ntmps25
  go_wp2_with (simp only [key])
  go_ret
  exact ⟨rfl, rfl⟩
theorem tz16_any (x : Nat) (hx : x < 65536) (hx0 : x ≠ 0) (w : World) (hG : LaidW w) :
    Calls Tryd.prog 25 #[.int .u16 x] w fun e w' => e = .returned (.int .i64 (Lib.ctz 16 x : Nat)) ∧ w' = w := by
  obtain ⟨hlow, hk⟩ := Lib.lowest_bit 16 x hx0 hx
  obtain ⟨hi, ht⟩ := tab32_at _ (Nat.lt_of_lt_of_le hk (by decide))
  have hcell := Lib.TabIs.cell hG g32 _ (Nat.lt_of_lt_of_eq hi (show 32 = tab32.length from rfl))
  rw [ht] at hcell
  exact tz16_core x _ _ w (by simp; omega) (tz16_key x _ hx hx0 hlow (Nat.pow_lt_pow_right (by decide) hk)) hi (Nat.lt_of_lt_of_le hk (by decide)) hcell
end Go.Proofs.YtkeeledkdoiglaaDoor
