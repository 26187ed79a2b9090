/- Wheel: two rows that are the same; the law's first lines; both wheels alike. -/
import Derived.Test.YtkeeledkdoiglaaDoorWhTick4
namespace Go.Proofs.YtkeeledkdoiglaaDoor.Wh
open Go.RowKit Go.Proofs.YtkeeledkdoiglaaDoor
theorem own_form {w : World} {base : Nat} {v : Value} {l : List Int} (h : Own w base v l) :
    ∃ a cap g, v = .slice a l.length cap ∧ (l ≠ [] → a = some ⟨g, 0, none⟩) ∧ (∀ (i : Nat) (hi : i < l.length), w.cell? ⟨g, i, none⟩ = some (.int .i64 l[i])) ∧
      ((v = .slice none 0 0 ∧ l = []) ∨ (a = some ⟨g, 0, none⟩ ∧ base ≤ g ∧ g < w.heap.size)) := by
  have h0 := h
  obtain ⟨h1, h2⟩ := h
  rcases h2 with ⟨rfl, hx⟩ | ⟨g, cap, cur, rfl, hg, hh, r⟩
  · have hl : l = [] := by
      cases l with
      | nil => rfl
      | cons x r => simp at hx
    subst hl
    exact ⟨none, 0, 0, rfl, fun h => absurd rfl h, fun i hi => by simp at hi, .inl ⟨rfl, rfl⟩⟩
  · refine ⟨some ⟨g, 0, none⟩, cap, g, rfl, fun _ => rfl, fun i hi => ?_, .inr ⟨rfl, hg, (Array.getElem?_eq_some_iff.1 hh).1⟩⟩
    have := World.ownsRow.cellAt h0 i (by omega)
    rw [this]
    unfold ints
    simp [hi]
set_option maxRecDepth 100000 in
theorem same_eq (b1 b2 : Nat) (va vb : Value) (l : List Int) (hl : l.length ≤ 1000000) (w : World) (ha : Own w b1 va l) (hb : Own w b2 vb l) :
    Calls Tryd.prog 15 #[va, vb] w fun e w' => e = .returned (.bool true) ∧ ∃ k, w' = w.drewN k := by
  obtain ⟨a, ca, ga, rfl, hna, hca, -⟩ := own_form ha
  obtain ⟨b, cb, gb, rfl, hnb, hcb, -⟩ := own_form hb
  have HA := Lib.hid (And.intro hna hca)
  have HB := Lib.hid (And.intro hnb hcb)
  clear ha hb hna hca hnb hcb
  go_enter Tryd.func15, Tryd.ntmps15
  go_wp2_with fail
  go_loopw [13] (fun c wr => ∃ (k nq : Nat), k ≤ l.length ∧ c = .int .i64 (k : Int) ∧ wr = w.drewN nq) (fun c _ => l.length - (intOf c).toNat)
  case atStart => exact ⟨0, 0, by omega, rfl, rfl⟩
  case round =>
    obtain ⟨k, nq0, hk, rfl, rfl⟩ := hrel
    by_cases hlt : k < l.length
    · have hlti : (k : Int) < (l.length : Int) := by omega
      have hne : l ≠ [] := by intro h; rw [h] at hlt; simp at hlt
      obtain rfl := HA.out.1 hne
      obtain rfl := HB.out.1 hne
      obtain ⟨x, hx⟩ : ∃ x, x = l[k] := ⟨_, rfl⟩
      have c1 : (w.drewN nq0).cell? ⟨ga, k, none⟩ = some (.int .i64 x) := by rw [hx]; exact HA.out.2 k hlt
      have c2 : (w.drewN nq0).cell? ⟨gb, k, none⟩ = some (.int .i64 x) := by rw [hx]; exact HB.out.2 k hlt
      obtain ⟨w9, hw9⟩ : ∃ w9, w9 = w.drewN nq0 := ⟨_, rfl⟩
      rw [← hw9] at c1 c2 ⊢
      have HW := Lib.hid hw9
      clear hx hne hw9
      go_wp2_with fail
      go_quiet (fail)
      go_wp2
      go_roundw
      case rel => exact ⟨k + 1, nq0 + nq, by omega, by go_num, by rw [HW.out, World.drewN_drewN]⟩
      case measure => simp [intOf]; omega
    · obtain rfl : k = l.length := by omega
      go_wp2
      go_ret
      exact ⟨rfl, _, rfl⟩
end Go.Proofs.YtkeeledkdoiglaaDoor.Wh
