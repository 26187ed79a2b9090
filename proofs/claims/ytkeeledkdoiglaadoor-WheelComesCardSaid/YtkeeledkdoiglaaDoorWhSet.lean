/- Wheel: its cells stored; Cancel. -/
import Derived.Test.YtkeeledkdoiglaaDoorWhBase
namespace Go.Proofs.YtkeeledkdoiglaaDoor.Wh
open Go.RowKit Go.Proofs.YtkeeledkdoiglaaDoor
def upd {α : Type} (f : Nat → α) (i : Nat) (x : α) : Nat → α := fun k => if k = i then x else f k
theorem WAt.st_now {w : World} {wb : Nat} {s : WS} (h : WAt w wb s) (v : Int) : WAt (w.setCell ⟨wb, 0, none⟩ (.int .i64 v)) wb { s with now := v } :=
  ⟨by simpa [World.setCell] using h.lt, World.cell?_setCell_same _ _ _ h.now, fun k hk => by rw [World.cell?_setCell_other _ _ _ _ (by simp <;> omega)]; exact h.due k hk, by rw [World.cell?_setCell_other _ _ _ _ (by simp <;> omega)]; exact h.set, fun k hk => by rw [World.cell?_setCell_other _ _ _ _ (by simp <;> omega)]; exact h.spoke k hk, fun j => by rw [World.frozen?_setCell]; exact h.free j⟩
theorem WAt.st_due {w : World} {wb : Nat} {s : WS} (h : WAt w wb s) {i : Nat} (hi : i < 16) (v : Int) : WAt (w.setCell ⟨wb, 1 + i, none⟩ (.int .i64 v)) wb { s with D := upd s.D i v } :=
  ⟨by simpa [World.setCell] using h.lt, by rw [World.cell?_setCell_other _ _ _ _ (by simp <;> omega)]; exact h.now, fun k hk => by
    by_cases e : k = i
    · subst e
      rw [World.cell?_setCell_same _ _ _ (h.due k hk)]
      simp [upd]
    · rw [World.cell?_setCell_other _ _ _ _ (by simp <;> omega)]
      simp only [upd, if_neg e]
      exact h.due k hk, by rw [World.cell?_setCell_other _ _ _ _ (by simp <;> omega)]; exact h.set, fun k hk => by rw [World.cell?_setCell_other _ _ _ _ (by simp <;> omega)]; exact h.spoke k hk, fun j => by rw [World.frozen?_setCell]; exact h.free j⟩
theorem WAt.st_set {w : World} {wb : Nat} {s : WS} (h : WAt w wb s) (v : Nat) : WAt (w.setCell ⟨wb, 17, none⟩ (.int .u16 (v : Int))) wb { s with M := v } :=
  ⟨by simpa [World.setCell] using h.lt, by rw [World.cell?_setCell_other _ _ _ _ (by simp <;> omega)]; exact h.now, fun k hk => by rw [World.cell?_setCell_other _ _ _ _ (by simp <;> omega)]; exact h.due k hk, World.cell?_setCell_same _ _ _ h.set, fun k hk => by rw [World.cell?_setCell_other _ _ _ _ (by simp <;> omega)]; exact h.spoke k hk, fun j => by rw [World.frozen?_setCell]; exact h.free j⟩
theorem WAt.st_spoke {w : World} {wb : Nat} {s : WS} (h : WAt w wb s) {i : Nat} (hi : i < 32) (v : Nat) : WAt (w.setCell ⟨wb, 18 + i, none⟩ (.int .u16 (v : Int))) wb { s with S := upd s.S i v } :=
  ⟨by simpa [World.setCell] using h.lt, by rw [World.cell?_setCell_other _ _ _ _ (by simp <;> omega)]; exact h.now, fun k hk => by rw [World.cell?_setCell_other _ _ _ _ (by simp <;> omega)]; exact h.due k hk, by rw [World.cell?_setCell_other _ _ _ _ (by simp <;> omega)]; exact h.set, fun k hk => by
    by_cases e : k = i
    · subst e
      rw [World.cell?_setCell_same _ _ _ (h.spoke k hk)]
      simp [upd]
    · rw [World.cell?_setCell_other _ _ _ _ (by simp <;> omega)]
      simp only [upd, if_neg e]
      exact h.spoke k hk, fun j => by rw [World.frozen?_setCell]; exact h.free j⟩
theorem andnot16 (m i : Nat) (hm : m < 65536) (hi : i < 16) : bits BinOp.andNot .u16 (m : Int) (IntKind.u16.wrap (2 ^ i)) = ((m &&& (65535 ^^^ 2 ^ i) : Nat) : Int) := by
  have h2 : 2 ^ i < 65536 := Nat.pow_lt_pow_right (by decide) hi
  have hx : m &&& (65535 ^^^ 2 ^ i) < 2 ^ 16 := Nat.and_lt_two_pow _ (Nat.xor_lt_two_pow (by decide) h2)
  rw [show ((2 : Int) ^ i) = ((2 ^ i : Nat) : Int) by simp, wrap16 _ h2]
  show IntKind.u16.wrap ((BitVec.ofInt 16 (m : Int) &&& ~~~ BitVec.ofInt 16 ((2 ^ i : Nat) : Int)).toNat : Int) = _
  rw [BitVec.toNat_and, BitVec.toNat_not, of16 m hm, of16 _ h2]
  rw [show (2 ^ 16 - 1 - 2 ^ i : Nat) = 65535 ^^^ 2 ^ i from by
    have : ∀ k : Fin 16, (2 ^ 16 - 1 - 2 ^ k.val : Nat) = 65535 ^^^ 2 ^ k.val := by decide
    exact this ⟨i, hi⟩]
  exact wrap16 _ (by omega)
set_option maxRecDepth 100000 in
theorem cancel_not (wb : Nat) (i : Int) (w : World) (hc : Calls Tryd.prog 24 #[.pointer (some ⟨wb, 0, none⟩), .int .i64 i] w fun e w' => e = .returned (.bool false) ∧ w' = w) :
    Calls Tryd.prog 10 #[.pointer (some ⟨wb, 0, none⟩), .int .i64 i] w fun e w' => e = .returned (.bool false) ∧ w' = w := by
  have HI := Lib.hid hc
  clear hc
  go_enter Tryd.func10, Tryd.ntmps10
  go_wp2_with fail
  refine HI.out.mono ?_
  clear HI
  rintro e w' ⟨rfl, rfl⟩
  go_wp2
  go_ret
  exact ⟨rfl, rfl⟩
set_option maxRecDepth 100000 in
theorem cancel_in (wb : Nat) (s : WS) (i dn j : Nat) (hj : dn % 32 = j) (hi : i < 16) (hDn : s.D i = (dn : Int)) (hdn : dn ≤ 1000000) (hM : s.M < 65536) (hS : s.S j < 65536) (hb : s.M.testBit i = true) (w : World) (h : WAt w wb s) :
    Calls Tryd.prog 10 #[.pointer (some ⟨wb, 0, none⟩), .int .i64 (i : Int)] w fun e w' => e = .returned (.bool true) ∧ Keep (fun k => k = wb) w w' ∧ WAt w' wb { s with M := s.M &&& (65535 ^^^ 2 ^ i), S := upd s.S j (s.S j &&& (65535 ^^^ 2 ^ i)) } := by
  have hii : (i : Int) < 16 := by omega
  have hc := is_in wb s i hi hM w h
  rw [hb] at hc
  have HI := Lib.hid hc
  have H := Lib.hid h
  have HA := Lib.hid (andnot16 s.M i hM hi)
  have HB := Lib.hid (andnot16 (s.S j) i hS hi)
  have c2 := h.set
  have f2 := h.free 17
  clear h hb hc
  go_enter Tryd.func10, Tryd.ntmps10
  go_wp2_with fail
  refine HI.out.mono ?_
  clear HI
  rintro e w' ⟨rfl, rfl⟩
  go_wp2_with fail
  go_still_tail 9, (by kernel_rfl)
  change wpList _ _ _ _ _ w'.drew
  have H1 := Lib.hid H.out.drew
  have HK := Lib.hid (show Keep (fun k => k = wb) w' w'.drew from (Keep.refl _ w').drewN 1)
  clear c2 f2
  generalize w'.drew = w1 at *
  have c2 : w1.cell? ⟨wb, 17, none⟩ = some (.int .u16 (s.M : Int)) := H1.out.set
  have f2 : w1.frozen? ⟨wb, 17, none⟩ = false := H1.out.free 17
  clear H
  go_wp2_with fail
  rw [HA.out]
  have H2 := Lib.hid (H1.out.st_set (s.M &&& (65535 ^^^ 2 ^ i)))
  have HK2 := Lib.hid (HK.out.setCell (p := ⟨wb, 17, none⟩) (.inr rfl) (.int .u16 ((s.M &&& (65535 ^^^ 2 ^ i) : Nat) : Int)))
  clear c2 f2 H1 HK
  generalize w1.setCell ⟨wb, 17, none⟩ (.int .u16 ((s.M &&& (65535 ^^^ 2 ^ i) : Nat) : Int)) = w2 at *
  have hlt : j < 32 := by omega
  have hltj : (j : Int) < 32 := by omega
  have hq : (dn : Int).tmod 32 = (j : Int) := by rw [Int.tmod_eq_emod_of_nonneg (by omega)]; omega
  have cd : w2.cell? ⟨wb, 1 + i, none⟩ = some (.int .i64 (dn : Int)) := by rw [← hDn]; exact H2.out.due i hi
  have cs : w2.cell? ⟨wb, 18 + j, none⟩ = some (.int .u16 (s.S j : Int)) := H2.out.spoke j hlt
  have fs : w2.frozen? ⟨wb, 18 + j, none⟩ = false := H2.out.free _
  have HDN := Lib.hid hDn
  clear hDn
  go_wp2_with fail
  go_still_tail 18, (by kernel_rfl)
  change wpList _ _ _ _ _ w2.drew
  have H3 := Lib.hid H2.out.drew
  have HK3 := Lib.hid HK2.out.drew
  clear cd cs fs H2 HK2
  generalize w2.drew = w3 at *
  have cs : w3.cell? ⟨wb, 18 + j, none⟩ = some (.int .u16 (s.S j : Int)) := H3.out.spoke j hlt
  have fs : w3.frozen? ⟨wb, 18 + j, none⟩ = false := H3.out.free _
  go_wp2_with fail
  rw [HB.out]
  go_wp2
  go_ret
  exact ⟨rfl, HK3.out.setCell (p := ⟨wb, 18 + j, none⟩) (.inr rfl) _, H3.out.st_spoke hlt _⟩
end Go.Proofs.YtkeeledkdoiglaaDoor.Wh
