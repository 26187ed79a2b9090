/- Wheel: what lies in memory; is, Left, Cancel, Set. -/
import Derived.Test.YtkeeledkdoiglaaDoorgBase
import Derived.StillTailTactics
import Derived.BigQuiet
import Derived.IntWalk
namespace Go.Proofs.YtkeeledkdoiglaaDoor.Wh
open Go.RowKit Go.Proofs.YtkeeledkdoiglaaDoor
/-- now, due, set, spoke. -/
structure WS where
  now : Int
  D : Nat → Int
  M : Nat
  S : Nat → Nat
/-- A wheel at wb. -/
structure WAt (w : World) (wb : Nat) (s : WS) : Prop where
  lt : wb < w.heap.size
  now : w.cell? ⟨wb, 0, none⟩ = some (.int .i64 s.now)
  due : ∀ i, i < 16 → w.cell? ⟨wb, 1 + i, none⟩ = some (.int .i64 (s.D i))
  set : w.cell? ⟨wb, 17, none⟩ = some (.int .u16 (s.M : Int))
  spoke : ∀ j, j < 32 → w.cell? ⟨wb, 18 + j, none⟩ = some (.int .u16 (s.S j : Int))
  free : ∀ j, w.frozen? ⟨wb, j, none⟩ = false
theorem WAt.drewN {w : World} {wb : Nat} {s : WS} (h : WAt w wb s) (n : Nat) : WAt (w.drewN n) wb s := ⟨h.lt, h.now, h.due, h.set, h.spoke, h.free⟩
theorem WAt.drew {w : World} {wb : Nat} {s : WS} (h : WAt w wb s) : WAt w.drew wb s := h.drewN 1
theorem WAt.keep {w w' : World} {wb : Nat} {s : WS} (h : WAt w wb s) {P : Nat → Prop} (hk : Keep P w w') (hn : ¬ P wb) : WAt w' wb s := by
  have hb := hk.block wb h.lt hn
  have hc : ∀ j, w'.cell? ⟨wb, j, none⟩ = w.cell? ⟨wb, j, none⟩ := fun j => World.cell?_of_block (a := ⟨wb, j, none⟩) hb
  have hf : ∀ j, w'.frozen? ⟨wb, j, none⟩ = w.frozen? ⟨wb, j, none⟩ := fun j => World.frozen?_of_block (a := ⟨wb, j, none⟩) hb
  exact ⟨Nat.lt_of_lt_of_le h.lt hk.size, (hc 0).trans h.now, fun i hi => (hc _).trans (h.due i hi), (hc 17).trans h.set, fun j hj => (hc _).trans (h.spoke j hj), fun j => (hf j).trans (h.free j)⟩
theorem of16 (a : Nat) (ha : a < 65536) : (BitVec.ofInt 16 (a : Int)).toNat = a := by
  rw [BitVec.ofInt_natCast, BitVec.toNat_ofNat]; exact Nat.mod_eq_of_lt (by omega)
theorem wrap16 (a : Nat) (ha : a < 65536) : IntKind.u16.wrap (a : Int) = (a : Int) := by
  simp [IntKind.wrap, IntKind.bits, IntKind.signed]
  omega
theorem and16 (a b : Nat) (ha : a < 65536) (hb : b < 65536) : bits .and .u16 (a : Int) (b : Int) = ((a &&& b : Nat) : Int) := by
  have hx : a &&& b < 2 ^ 16 := Nat.and_lt_two_pow _ (by omega)
  show IntKind.u16.wrap ((BitVec.ofInt 16 (a : Int) &&& BitVec.ofInt 16 (b : Int)).toNat : Int) = _
  rw [BitVec.toNat_and, of16 a ha, of16 b hb]
  exact wrap16 _ (by omega)
theorem or16 (a b : Nat) (ha : a < 65536) (hb : b < 65536) : bits .or .u16 (a : Int) (b : Int) = ((a ||| b : Nat) : Int) := by
  have hx : a ||| b < 2 ^ 16 := Nat.or_lt_two_pow (by omega) (by omega)
  show IntKind.u16.wrap ((BitVec.ofInt 16 (a : Int) ||| BitVec.ofInt 16 (b : Int)).toNat : Int) = _
  rw [BitVec.toNat_or, of16 a ha, of16 b hb]
  exact wrap16 _ (by omega)
theorem is_bit (m i : Nat) (hm : m < 65536) : (bits BinOp.and IntKind.u16 ((m : Int) / 2 ^ i) 1 == 1) = m.testBit i := by
  have e : (m : Int) / 2 ^ i = ((m / 2 ^ i : Nat) : Int) := by simp
  have h2 : m / 2 ^ i < 65536 := Nat.lt_of_le_of_lt (Nat.div_le_self _ _) hm
  rw [e, show (1 : Int) = ((1 : Nat) : Int) from rfl, and16 _ 1 h2 (by decide), Nat.and_one_is_mod, Nat.testBit_eq_decide_div_mod_eq]
  by_cases h : m / 2 ^ i % 2 = 1
  · simp [h]
  · have : m / 2 ^ i % 2 = 0 := by omega
    simp [this]
set_option maxRecDepth 100000 in
theorem is_out (wb : Nat) (i : Int) (w : World) (hi : i < 0 ∨ 16 ≤ i) :
    Calls Tryd.prog 24 #[.pointer (some ⟨wb, 0, none⟩), .int .i64 i] w fun e w' => e = .returned (.bool false) ∧ w' = w := by
  by_cases h0 : i < 0
  · have h1 : decide (0 ≤ i) = false := by simp; omega
    go_enter Tryd.func24, Tryd.ntmps24
    go_wp2
    go_ret
    exact ⟨rfl, rfl⟩
  · have h1 : decide (0 ≤ i) = true := by simp; omega
    have h2 : decide (i < 16) = false := by simp; omega
    go_enter Tryd.func24, Tryd.ntmps24
    go_wp2
    go_ret
    exact ⟨rfl, rfl⟩
set_option maxRecDepth 100000 in
theorem is_in (wb : Nat) (s : WS) (i : Nat) (hi : i < 16) (hM : s.M < 65536) (w : World) (h : WAt w wb s) :
    Calls Tryd.prog 24 #[.pointer (some ⟨wb, 0, none⟩), .int .i64 (i : Int)] w fun e w' => e = .returned (.bool (s.M.testBit i)) ∧ w' = w := by
  have h1 : decide ((0 : Int) ≤ (i : Int)) = true := by simp
  have h2 : decide ((i : Int) < 16) = true := by simp; omega
  have c := h.set
  go_enter Tryd.func24, Tryd.ntmps24
  have hb := is_bit s.M i hM
  have HB := Lib.hid hb
  clear hb
  go_wp2
  go_ret
  exact ⟨by rw [← HB.out]; rfl, rfl⟩
set_option maxRecDepth 100000 in
theorem left_out (wb : Nat) (i : Int) (w : World) (hi : i < 0 ∨ 16 ≤ i) :
    Calls Tryd.prog 11 #[.pointer (some ⟨wb, 0, none⟩), .int .i64 i] w fun e w' => e = .returned (.int .i64 0) ∧ w' = w := by
  go_enter Tryd.func11, Tryd.ntmps11
  go_wp2_with fail
  refine (is_out wb i w hi).mono ?_
  rintro e w' ⟨rfl, rfl⟩
  go_wp2
  go_ret
  exact ⟨rfl, rfl⟩
set_option maxRecDepth 100000 in
theorem left_none (wb : Nat) (s : WS) (i : Nat) (hi : i < 16) (hM : s.M < 65536) (hb : s.M.testBit i = false) (w : World) (h : WAt w wb s) :
    Calls Tryd.prog 11 #[.pointer (some ⟨wb, 0, none⟩), .int .i64 (i : Int)] w fun e w' => e = .returned (.int .i64 0) ∧ ∃ k, w' = w.drewN k := by
  have hii : (i : Int) < 16 := by omega
  have hc := is_in wb s i hi hM w h
  rw [hb] at hc
  have HI := Lib.hid hc
  clear h hb hc
  go_enter Tryd.func11, Tryd.ntmps11
  go_wp2_with fail
  refine HI.out.mono ?_
  clear HI
  rintro e w' ⟨rfl, rfl⟩
  go_wp2
  go_ret
  exact ⟨rfl, 0, rfl⟩
set_option maxRecDepth 100000 in
theorem left_some (wb : Nat) (s : WS) (i : Nat) (hi : i < 16) (hM : s.M < 65536) (hb : s.M.testBit i = true) (hD : -1000000 ≤ s.D i ∧ s.D i ≤ 1000000) (hN : -1000000 ≤ s.now ∧ s.now ≤ 1000000) (w : World) (h : WAt w wb s) :
    Calls Tryd.prog 11 #[.pointer (some ⟨wb, 0, none⟩), .int .i64 (i : Int)] w fun e w' => e = .returned (.int .i64 (s.D i - s.now)) ∧ ∃ k, w' = w.drewN k := by
  have hii : (i : Int) < 16 := by omega
  have c0 := h.now
  have c1 := h.due i hi
  have hw : IntKind.i64.wrap (s.D i - s.now) = s.D i - s.now := IntWalk.i64_in _ (by omega)
  have hc := is_in wb s i hi hM w h
  rw [hb] at hc
  have HI := Lib.hid hc
  clear h hb hc
  go_enter Tryd.func11, Tryd.ntmps11
  go_wp2_with fail
  refine HI.out.mono ?_
  clear HI
  rintro e w' ⟨rfl, rfl⟩
  go_wp2_with fail
  go_quiet (fail)
  go_wp2
  go_ret
  exact ⟨rfl, _, rfl⟩
end Go.Proofs.YtkeeledkdoiglaaDoor.Wh
