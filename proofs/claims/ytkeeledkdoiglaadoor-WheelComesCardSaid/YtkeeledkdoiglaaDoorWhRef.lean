/- Wheel: the reference's: state, Left, Set. -/
import Derived.Test.YtkeeledkdoiglaaDoorWhSoon
namespace Go.Proofs.YtkeeledkdoiglaaDoor.Wh
open Go.RowKit Go.Proofs.YtkeeledkdoiglaaDoor
/-- The reference's wheel at rb: ticks left. -/
structure RfAt (w : World) (rb : Nat) (R : Nat → Int) : Prop where
  lt : rb < w.heap.size
  c : ∀ i, i < 16 → w.cell? ⟨rb, i, none⟩ = some (.int .i64 (R i))
  free : ∀ j, w.frozen? ⟨rb, j, none⟩ = false
theorem RfAt.drewN {w : World} {rb : Nat} {R : Nat → Int} (h : RfAt w rb R) (n : Nat) : RfAt (w.drewN n) rb R := ⟨h.lt, h.c, h.free⟩
theorem RfAt.keep {w w' : World} {rb : Nat} {R : Nat → Int} (h : RfAt w rb R) {P : Nat → Prop} (hk : Keep P w w') (hn : ¬ P rb) : RfAt w' rb R := by
  have hb := hk.block rb h.lt hn
  exact ⟨Nat.lt_of_lt_of_le h.lt hk.size, fun i hi => (World.cell?_of_block (a := ⟨rb, i, none⟩) hb).trans (h.c i hi), fun j => (World.frozen?_of_block (a := ⟨rb, j, none⟩) hb).trans (h.free j)⟩
theorem RfAt.st {w : World} {rb : Nat} {R : Nat → Int} (h : RfAt w rb R) {i : Nat} (hi : i < 16) (v : Int) : RfAt (w.setCell ⟨rb, i, none⟩ (.int .i64 v)) rb (upd R i v) := by
  refine ⟨by simpa [World.setCell] using h.lt, fun k hk => ?_, fun j => by rw [World.frozen?_setCell]; exact h.free j⟩
  by_cases e : k = i
  · subst e
    rw [World.cell?_setCell_same _ _ _ (h.c k hk)]
    simp [upd]
  · rw [World.cell?_setCell_other _ _ _ _ (by simp <;> omega)]
    simp only [upd, if_neg e]
    exact h.c k hk
set_option maxRecDepth 100000 in
theorem rleft_in (rb : Nat) (R : Nat → Int) (i : Nat) (hi : i < 16) (w : World) (h : RfAt w rb R) :
    Calls Tryd.prog 14 #[.pointer (some ⟨rb, 0, none⟩), .int .i64 (i : Int)] w fun e w' => e = .returned (.int .i64 (R i)) ∧ w' = w := by
  have h1 : decide ((i : Int) < 0) = false := by simp
  have h2 : decide ((15 : Int) < (i : Int)) = false := by simp; omega
  have hii : (i : Int) < 16 := by omega
  have c := h.c i hi
  clear h
  go_enter Tryd.func14, Tryd.ntmps14
  go_wp2
  go_ret
  exact ⟨rfl, rfl⟩
set_option maxRecDepth 100000 in
theorem rleft_out (rb : Nat) (i : Int) (hi : i < 0 ∨ 16 ≤ i) (w : World) :
    Calls Tryd.prog 14 #[.pointer (some ⟨rb, 0, none⟩), .int .i64 i] w fun e w' => e = .returned (.int .i64 0) ∧ w' = w := by
  by_cases h0 : i < 0
  · have h1 : decide (i < 0) = true := by simp; omega
    go_enter Tryd.func14, Tryd.ntmps14
    go_wp2
    go_ret
    exact ⟨rfl, rfl⟩
  · have h1 : decide (i < 0) = false := by simp; omega
    have h2 : decide (15 < i) = true := by simp; omega
    go_enter Tryd.func14, Tryd.ntmps14
    go_wp2
    go_ret
    exact ⟨rfl, rfl⟩
set_option maxRecDepth 100000 in
theorem rset_in (rb : Nat) (R : Nat → Int) (i t : Nat) (hi : i < 16) (ht : 1 ≤ t ∧ t ≤ 10000) (w : World) (h : RfAt w rb R) :
    Calls Tryd.prog 13 #[.pointer (some ⟨rb, 0, none⟩), .int .i64 (i : Int), .int .i64 (t : Int)] w fun e w' => e = .returned (.bool true) ∧ Keep (fun k => k = rb) w w' ∧ RfAt w' rb (upd R i (t : Int)) := by
  have h1 : decide ((i : Int) < 0) = false := by simp
  have h2 : decide ((15 : Int) < (i : Int)) = false := by simp; omega
  have h3 : decide ((t : Int) < 1) = false := by simp; omega
  have h4 : decide ((10000 : Int) < (t : Int)) = false := by simp; omega
  have hii : (i : Int) < 16 := by omega
  have c := h.c i hi
  have f := h.free i
  have H := Lib.hid h
  clear h
  go_enter Tryd.func13, Tryd.ntmps13
  go_wp2
  go_ret
  exact ⟨rfl, Keep.setCell (S := fun k => k = rb) (p := ⟨rb, i, none⟩) (Keep.refl _ w) (.inr rfl) _, H.out.st hi _⟩
set_option maxRecDepth 100000 in
theorem rset_not (rb : Nat) (i t : Int) (hn : i < 0 ∨ 16 ≤ i ∨ t < 1 ∨ 10000 < t) (w : World) :
    Calls Tryd.prog 13 #[.pointer (some ⟨rb, 0, none⟩), .int .i64 i, .int .i64 t] w fun e w' => e = .returned (.bool false) ∧ w' = w := by
  by_cases h0 : i < 0
  · have h1 : decide (i < 0) = true := by simp; omega
    go_enter Tryd.func13, Tryd.ntmps13
    go_wp2
    go_ret
    exact ⟨rfl, rfl⟩
  · have h1 : decide (i < 0) = false := by simp; omega
    by_cases h15 : 15 < i
    · have h2 : decide (15 < i) = true := by simp; omega
      go_enter Tryd.func13, Tryd.ntmps13
      go_wp2
      go_ret
      exact ⟨rfl, rfl⟩
    · have h2 : decide (15 < i) = false := by simp; omega
      by_cases ht : t < 1
      · have h3 : decide (t < 1) = true := by simp; omega
        go_enter Tryd.func13, Tryd.ntmps13
        go_wp2
        go_ret
        exact ⟨rfl, rfl⟩
      · have h3 : decide (t < 1) = false := by simp; omega
        have h4 : decide (10000 < t) = true := by simp; omega
        go_enter Tryd.func13, Tryd.ntmps13
        go_wp2
        go_ret
        exact ⟨rfl, rfl⟩
end Go.Proofs.YtkeeledkdoiglaaDoor.Wh
