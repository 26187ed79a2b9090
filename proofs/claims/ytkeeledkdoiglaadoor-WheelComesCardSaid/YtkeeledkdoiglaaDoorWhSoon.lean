/- Wheel: Left as one number; Soonest. -/
import Derived.Test.YtkeeledkdoiglaaDoorWhSet2
namespace Go.Proofs.YtkeeledkdoiglaaDoor.Wh
open Go.RowKit Go.Proofs.YtkeeledkdoiglaaDoor
/-- Ticks left; 0: not set. -/
def WS.left (s : WS) (i : Nat) : Int := if s.M.testBit i then s.D i - s.now else 0
structure WS.ok (s : WS) : Prop where
  m : s.M < 65536
  n : 0 ≤ s.now ∧ s.now ≤ 500000
  d : ∀ i, i < 16 → s.M.testBit i = true → -1000000 ≤ s.D i ∧ s.D i ≤ 1000000
theorem left_any (wb : Nat) (s : WS) (hs : s.ok) (i : Nat) (hi : i < 16) (w : World) (h : WAt w wb s) :
    Calls Tryd.prog 11 #[.pointer (some ⟨wb, 0, none⟩), .int .i64 (i : Int)] w fun e w' => e = .returned (.int .i64 (s.left i)) ∧ ∃ k, w' = w.drewN k := by
  have hn := hs.n
  cases hb : s.M.testBit i
  · have e : s.left i = 0 := by simp [WS.left, hb]
    rw [e]
    exact left_none wb s i hi hs.m hb w h
  · have e : s.left i = s.D i - s.now := by simp [WS.left, hb]
    rw [e]
    exact left_some wb s i hi hs.m hb (hs.d i hi hb) (by omega) w h
/-- The least of those that are more than 0, among the first k; none. -/
def soon (f : Nat → Int) : Nat → Int × Bool
  | 0 => (0, false)
  | k + 1 => if 0 < f k ∧ ((soon f k).2 = false ∨ f k < (soon f k).1) then (f k, true) else soon f k
theorem soon_no {f : Nat → Int} {k : Nat} (h : ¬ (0 < f k ∧ ((soon f k).2 = false ∨ f k < (soon f k).1))) : soon f (k + 1) = soon f k := by
  conv => lhs; unfold soon
  rw [if_neg h]
theorem soon_yes {f : Nat → Int} {k : Nat} (h : 0 < f k ∧ ((soon f k).2 = false ∨ f k < (soon f k).1)) : soon f (k + 1) = (f k, true) := by
  conv => lhs; unfold soon
  rw [if_pos h]
set_option maxRecDepth 100000 in
set_option maxHeartbeats 4000000 in
theorem soonest_any (wb : Nat) (s : WS) (hs : s.ok) (w : World) (h : WAt w wb s) :
    Calls Tryd.prog 26 #[.pointer (some ⟨wb, 0, none⟩)] w fun e w' => e = .returned (.tuple #[.int .i64 (soon s.left 16).1, .bool (soon s.left 16).2]) ∧ ∃ k, w' = w.drewN k := by
  have H := Lib.hid h
  have HS := Lib.hid hs
  clear h hs
  go_enter Tryd.func26, Tryd.ntmps26
  go_wp2_with fail
  go_loopw [4, 5, 8] (fun b o c wr => ∃ (k nq : Nat), k ≤ 16 ∧ c = .int .i64 (k : Int) ∧ b = .int .i64 (soon s.left k).1 ∧ o = .bool (soon s.left k).2 ∧ wr = w.drewN nq) (fun _ _ c _ => 16 - (intOf c).toNat)
  case atStart => exact ⟨0, 0, by omega, rfl, rfl, rfl, rfl⟩
  case round =>
    obtain ⟨k, nq, hk, rfl, rfl, rfl, rfl⟩ := hrel
    by_cases hlt : k < 16
    · have hlti : (k : Int) < 16 := by omega
      obtain ⟨bb, hbb⟩ : ∃ bb, bb = (soon s.left k).1 := ⟨_, rfl⟩
      obtain ⟨oo, hoo⟩ : ∃ oo, oo = (soon s.left k).2 := ⟨_, rfl⟩
      obtain ⟨lf, hlf⟩ : ∃ lf, lf = s.left k := ⟨_, rfl⟩
      have HL := Lib.hid (left_any wb s HS.out k hlt (w.drewN nq) (H.out.drewN nq))
      rw [← hlf] at HL
      have HY := Lib.hid (@soon_yes s.left k)
      have HN := Lib.hid (@soon_no s.left k)
      rw [← hlf, ← hbb, ← hoo] at HY HN
      rw [← hbb, ← hoo]
      have HBB := Lib.hid (And.intro hbb hoo)
      clear hbb hoo hlf
      go_wp2_with fail
      refine HL.out.mono ?_
      rintro e w' ⟨rfl, k2, rfl⟩
      clear HL
      by_cases h1 : 0 < lf
      · cases oo
        · have HE := Lib.hid (HY.out ⟨h1, .inl rfl⟩)
          clear HY HN
          go_wp2
          go_roundw
          case rel => exact ⟨k + 1, nq + k2, by omega, by go_num, by rw [HE.out], by rw [HE.out], rfl⟩
          case measure => simp [intOf]; omega
        · by_cases h2 : lf < bb
          · have HE := Lib.hid (HY.out ⟨h1, .inr h2⟩)
            clear HY HN
            go_wp2
            go_roundw
            case rel => exact ⟨k + 1, nq + k2, by omega, by go_num, by rw [HE.out], by rw [HE.out], rfl⟩
            case measure => simp [intOf]; omega
          · have HE := Lib.hid (HN.out (by simp [h2]))
            clear HY HN
            go_wp2
            go_roundw
            case rel => exact ⟨k + 1, nq + k2, by omega, by go_num, by rw [HE.out, HBB.out.1], by rw [HE.out, HBB.out.2], rfl⟩
            case measure => simp [intOf]; omega
      · have HE := Lib.hid (HN.out (fun h => h1 h.1))
        clear HY HN
        go_wp2
        go_roundw
        case rel => exact ⟨k + 1, nq + k2, by omega, by go_num, by rw [HE.out, HBB.out.1], by rw [HE.out, HBB.out.2], rfl⟩
        case measure => simp [intOf]; omega
    · obtain rfl : k = 16 := by omega
      go_wp2
      go_ret2
      exact ⟨rfl, _, rfl⟩
end Go.Proofs.YtkeeledkdoiglaaDoor.Wh
