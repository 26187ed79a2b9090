/- Wheel: Set out of range; New; the reference's Soonest. -/
import Derived.Test.YtkeeledkdoiglaaDoorWhRef
namespace Go.Proofs.YtkeeledkdoiglaaDoor.Wh
open Go.RowKit Go.Proofs.YtkeeledkdoiglaaDoor
set_option maxRecDepth 100000 in
theorem set_not (wb : Nat) (i t : Int) (hn : i < 0 ∨ 16 ≤ i ∨ t < 1 ∨ 10000 < t) (w : World) :
    Calls Tryd.prog 9 #[.pointer (some ⟨wb, 0, none⟩), .int .i64 i, .int .i64 t] w fun e w' => e = .returned (.bool false) ∧ w' = w := by
  by_cases h0 : i < 0
  · have h1 : decide (i < 0) = true := by simp; omega
    go_enter Tryd.func9, Tryd.ntmps9
    go_wp2
    go_ret
    exact ⟨rfl, rfl⟩
  · have h1 : decide (i < 0) = false := by simp; omega
    by_cases h15 : 16 ≤ i
    · have h2 : decide (16 ≤ i) = true := by simp; omega
      go_enter Tryd.func9, Tryd.ntmps9
      go_wp2
      go_ret
      exact ⟨rfl, rfl⟩
    · have h2 : decide (16 ≤ i) = false := by simp; omega
      by_cases ht : t < 1
      · have h3 : decide (t < 1) = true := by simp; omega
        go_enter Tryd.func9, Tryd.ntmps9
        go_wp2
        go_ret
        exact ⟨rfl, rfl⟩
      · have h3 : decide (t < 1) = false := by simp; omega
        have h4 : decide (10000 < t) = true := by simp; omega
        go_enter Tryd.func9, Tryd.ntmps9
        go_wp2
        go_ret
        exact ⟨rfl, rfl⟩
/-- The least of those that are more than 0, as the document has it. -/
def rsoon (f : Nat → Int) : Nat → Int
  | 0 => 0
  | k + 1 => if 0 < f k ∧ (rsoon f k = 0 ∨ f k < rsoon f k) then f k else rsoon f k
theorem rsoon_no {f : Nat → Int} {k : Nat} (h : ¬ (0 < f k ∧ (rsoon f k = 0 ∨ f k < rsoon f k))) : rsoon f (k + 1) = rsoon f k := by
  conv => lhs; unfold rsoon
  rw [if_neg h]
theorem rsoon_yes {f : Nat → Int} {k : Nat} (h : 0 < f k ∧ (rsoon f k = 0 ∨ f k < rsoon f k)) : rsoon f (k + 1) = f k := by
  conv => lhs; unfold rsoon
  rw [if_pos h]
/-- Both say the same. -/
theorem soon_rsoon (f : Nat → Int) : ∀ k, (soon f k).1 = rsoon f k ∧ ((soon f k).2 = true ↔ 0 < rsoon f k) ∧ ((soon f k).2 = false → rsoon f k = 0)
  | 0 => by simp [soon, rsoon]
  | k + 1 => by
    obtain ⟨h1, h2, h3⟩ := soon_rsoon f k
    by_cases h : 0 < f k ∧ ((soon f k).2 = false ∨ f k < (soon f k).1)
    · have h' : 0 < f k ∧ (rsoon f k = 0 ∨ f k < rsoon f k) := ⟨h.1, h.2.elim (fun e => .inl (h3 e)) (fun e => .inr (by rw [← h1]; exact e))⟩
      rw [soon_yes h, rsoon_yes h']
      exact ⟨rfl, ⟨fun _ => h.1, fun _ => rfl⟩, fun e => by cases e⟩
    · have h' : ¬ (0 < f k ∧ (rsoon f k = 0 ∨ f k < rsoon f k)) := fun e => h ⟨e.1, e.2.elim (fun e0 => .inl (by
        cases hs : (soon f k).2
        · rfl
        · have := h2.1 hs
          omega)) (fun e1 => .inr (by rw [h1]; exact e1))⟩
      rw [soon_no h, rsoon_no h']
      exact ⟨h1, h2, h3⟩
end Go.Proofs.YtkeeledkdoiglaaDoor.Wh
