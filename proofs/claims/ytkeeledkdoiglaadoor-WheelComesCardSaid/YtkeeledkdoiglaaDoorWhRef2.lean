/- Wheel: the reference's Soonest. -/
import Derived.Test.YtkeeledkdoiglaaDoorWhSet3
namespace Go.Proofs.YtkeeledkdoiglaaDoor.Wh
open Go.RowKit Go.Proofs.YtkeeledkdoiglaaDoor
set_option maxRecDepth 100000 in
set_option maxHeartbeats 4000000 in
theorem rsoonest_any (rb : Nat) (R : Nat → Int) (w : World) (h : RfAt w rb R) :
    Calls Tryd.prog 27 #[.pointer (some ⟨rb, 0, none⟩)] w fun e w' => e = .returned (.int .i64 (rsoon R 16)) ∧ w' = w := by
  have H := Lib.hid h
  clear h
  go_enter Tryd.func27, Tryd.ntmps27
  go_wp2_with fail
  go_loopw [3, 4] (fun b c wr => ∃ k : Nat, k ≤ 16 ∧ c = .int .i64 (k : Int) ∧ b = .int .i64 (rsoon R k) ∧ wr = w) (fun _ c _ => 16 - (intOf c).toNat)
  case atStart => exact ⟨0, by omega, rfl, rfl, rfl⟩
  case round =>
    obtain ⟨k, hk, rfl, rfl, rfl⟩ := hrel
    by_cases hlt : k < 16
    · have hlti : (k : Int) < 16 := by omega
      obtain ⟨bb, hbb⟩ : ∃ bb, bb = rsoon R k := ⟨_, rfl⟩
      obtain ⟨lf, hlf⟩ : ∃ lf, lf = R k := ⟨_, rfl⟩
      have c := H.out.c k hlt
      have HY := Lib.hid (@rsoon_yes R k)
      have HN := Lib.hid (@rsoon_no R k)
      rw [← hlf] at c
      rw [← hlf, ← hbb] at HY HN
      rw [← hbb]
      have HBB := Lib.hid hbb
      clear hbb hlf
      by_cases h1 : 0 < lf
      · by_cases h0 : bb = 0
        · have HE := Lib.hid (HY.out ⟨h1, .inl h0⟩)
          subst h0
          clear HY HN
          go_wp2
          go_roundw
          case rel => exact ⟨k + 1, by omega, by go_num, by rw [HE.out], trivial⟩
          case measure => simp [intOf]; omega
        · have hb0 : (bb == 0) = false := by simpa using h0
          by_cases h2 : lf < bb
          · have HE := Lib.hid (HY.out ⟨h1, .inr h2⟩)
            clear HY HN h0
            go_wp2
            go_roundw
            case rel => exact ⟨k + 1, by omega, by go_num, by rw [HE.out], trivial⟩
            case measure => simp [intOf]; omega
          · have HE := Lib.hid (HN.out (fun e => e.2.elim h0 h2))
            clear HY HN h0
            go_wp2
            go_roundw
            case rel => exact ⟨k + 1, by omega, by go_num, by rw [HE.out, HBB.out], trivial⟩
            case measure => simp [intOf]; omega
      · have HE := Lib.hid (HN.out (fun h => h1 h.1))
        clear HY HN
        go_wp2
        go_roundw
        case rel => exact ⟨k + 1, by omega, by go_num, by rw [HE.out, HBB.out], trivial⟩
        case measure => simp [intOf]; omega
    · obtain rfl : k = 16 := by omega
      go_wp2
      go_ret
      exact ⟨rfl, rfl⟩
end Go.Proofs.YtkeeledkdoiglaaDoor.Wh
