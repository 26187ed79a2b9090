/- Wheel: both wheels alike. -/
import Derived.Test.YtkeeledkdoiglaaDoorWhSame
namespace Go.Proofs.YtkeeledkdoiglaaDoor.Wh
open Go.RowKit Go.Proofs.YtkeeledkdoiglaaDoor
theorem soon_cnt (F : Nat → Int) : ∀ k, ((soon F k).2 = true ↔ 0 < cntF F k) ∧ ((soon F k).2 = false → cntF F k = 0)
  | 0 => by simp [soon, cntF]
  | k + 1 => by
    obtain ⟨h1, h2⟩ := soon_cnt F k
    by_cases h : 0 < F k
    · have e : (soon F (k + 1)).2 = true := by
        by_cases h' : (soon F k).2 = false ∨ F k < (soon F k).1
        · rw [soon_yes ⟨h, h'⟩]
        · rw [soon_no (fun e => h' e.2)]
          cases hs : (soon F k).2
          · exact absurd (.inl hs) h'
          · rfl
      rw [e]
      simp [cntF, h]
    · rw [soon_no (fun e => h e.1)]
      unfold cntF
      rw [if_neg h, Nat.add_zero]
      exact ⟨h1, h2⟩
theorem cntF_le (F : Nat → Int) : ∀ k, cntF F k ≤ k
  | 0 => Nat.le_refl _
  | k + 1 => by
    have := cntF_le F k
    unfold cntF
    split <;> omega
set_option maxRecDepth 100000 in
set_option maxHeartbeats 4000000 in
theorem alike_any (wb rb : Nat) (F : Nat → Int) (m : Int) (hm : m ≤ 400000) (w : World) (h : WL w wb F m) (hr : RfAt w rb F) :
    Calls Tryd.prog 18 #[.pointer (some ⟨wb, 0, none⟩), .pointer (some ⟨rb, 0, none⟩)] w fun e w' => e = .returned (.bool true) ∧ ∃ k, w' = w.drewN k := by
  have H := Lib.hid h
  have HR := Lib.hid hr
  clear h hr
  go_enter Tryd.func18, Tryd.ntmps18
  go_wp2_with fail
  go_loopw [5, 6] (fun n c wr => ∃ (k nq : Nat) (z : Int), k ≤ 18 ∧ z = (k : Int) - 1 ∧ c = .int .i64 z ∧ n = .int .i64 (cntF F (min (k - 1) 16) : Nat) ∧ wr = w.drewN nq) (fun _ c _ => 18 - (intOf c + 1).toNat)
  case atStart => exact ⟨0, 0, -1, by omega, by omega, rfl, rfl, rfl⟩
  case round =>
    obtain ⟨k, nq, z, hk, hz, rfl, rfl, rfl⟩ := hrel
    obtain ⟨n, hn⟩ : ∃ n, n = cntF F (min (k - 1) 16) := ⟨_, rfl⟩
    rw [← hn]
    by_cases hlt : k < 18
    · have hzi : z ≤ 16 := by omega
      have hz1 : -1 ≤ z := by omega
      by_cases hout : z < 0 ∨ 16 ≤ z
      · have hsame : cntF F (min (k + 1 - 1) 16) = n := by
          rw [hn]
          congr 1
          omega
        have HN := Lib.hid hsame
        have HO := Lib.hid hout
        have HZ := Lib.hid hz
        clear hn hsame hout hz
        go_wp2_with fail
        refine (left_out wb z _ HO.out).mono ?_
        rintro e w1 ⟨rfl, rfl⟩
        go_wp2_with fail
        refine (rleft_out rb z HO.out _).mono ?_
        rintro e w1 ⟨rfl, rfl⟩
        go_wp2_with fail
        refine (rleft_out rb z HO.out _).mono ?_
        rintro e w1 ⟨rfl, rfl⟩
        go_wp2
        go_roundw
        case rel => exact ⟨k + 1, nq, z + 1, by omega, by have := HZ.out; omega, by go_num, by rw [HN.out], rfl⟩
        case measure => have := HZ.out; simp [intOf]; omega
      · obtain ⟨i, rfl⟩ : ∃ i : Nat, z = (i : Int) := ⟨z.toNat, by omega⟩
        have hi : i < 16 := by omega
        have hcn : cntF F (min (k + 1 - 1) 16) = n + if 0 < F i then 1 else 0 := by
          have e1 : min (k + 1 - 1) 16 = i + 1 := by omega
          have e2 : min (k - 1) 16 = i := by omega
          rw [hn, e1, e2]
          rfl
        have hnb : n ≤ 16 := by rw [hn]; exact Nat.le_trans (cntF_le _ _) (Nat.min_le_right _ _)
        obtain ⟨x, hx⟩ : ∃ x, x = F i := ⟨_, rfl⟩
        have hL := leftW (H.out.drewN nq) (by omega) i hi
        have hRL := fun nq => rleft_in rb F i hi _ (HR.out.drewN nq)
        rw [← hx] at hL hcn
        simp only [← hx] at hRL
        have HL := Lib.hid hL
        have HRL := Lib.hid hRL
        have HCN := Lib.hid hcn
        have HZ := Lib.hid hz
        clear hn hL hRL hx hcn hout hz
        go_wp2_with fail
        refine HL.out.mono ?_
        rintro e w1 ⟨rfl, k2, rfl⟩
        rw [World.drewN_drewN]
        go_wp2_with fail
        refine (HRL.out _).mono ?_
        rintro e w1 ⟨rfl, rfl⟩
        go_wp2_with fail
        refine (HRL.out _).mono ?_
        rintro e w1 ⟨rfl, rfl⟩
        clear HL HRL
        by_cases h0 : 0 < x
        · have HE := Lib.hid (show cntF F (min (k + 1 - 1) 16) = n + 1 by rw [HCN.out, if_pos h0])
          go_wp2
          go_roundw
          case rel => exact ⟨k + 1, nq + k2, (i : Int) + 1, by omega, by have := HZ.out; omega, by go_num, by rw [HE.out]; go_num, rfl⟩
          case measure => have := HZ.out; simp [intOf]; omega
        · have HE := Lib.hid (show cntF F (min (k + 1 - 1) 16) = n by rw [HCN.out, if_neg h0]; rfl)
          go_wp2
          go_roundw
          case rel => exact ⟨k + 1, nq + k2, (i : Int) + 1, by omega, by have := HZ.out; omega, by go_num, by rw [HE.out], rfl⟩
          case measure => have := HZ.out; simp [intOf]; omega
    · obtain rfl : k = 18 := by omega
      obtain rfl : z = 17 := by omega
      have hn' : n = cntF F 16 := hn
      have hs := soon_cnt F 16
      have hrs := (soon_rsoon F 16).1
      rw [← hn'] at hs
      obtain ⟨bb, hbb⟩ : ∃ bb, bb = (soon F 16).1 := ⟨_, rfl⟩
      obtain ⟨oo, hoo⟩ : ∃ oo, oo = (soon F 16).2 := ⟨_, rfl⟩
      have hS := soonestW (H.out.drewN nq) (by omega)
      have hLn := fun nq => lenW (H.out.drewN nq)
      have hRS := fun nq => rsoonest_any rb F _ (HR.out.drewN nq)
      simp only [← hn'] at hLn
      rw [← hrs] at hRS
      rw [← hoo] at hs
      rw [← hbb, ← hoo] at hS
      simp only [← hbb] at hRS
      have HS := Lib.hid hS
      have HLN := Lib.hid hLn
      have HRS := Lib.hid hRS
      clear hS hLn hRS hbb hoo hn hn' hrs
      go_wp2_with fail
      refine HS.out.mono ?_
      rintro e w1 ⟨rfl, k1, rfl⟩
      rw [World.drewN_drewN]
      go_wp2_with fail
      refine (HLN.out _).mono ?_
      rintro e w1 ⟨rfl, k2, rfl⟩
      rw [World.drewN_drewN]
      go_wp2_with fail
      refine (HRS.out _).mono ?_
      rintro e w1 ⟨rfl, rfl⟩
      clear HS HLN HRS
      cases oo
      · obtain rfl : n = 0 := hs.2 rfl
        clear hs
        go_wp2
        go_ret
        exact ⟨rfl, _, rfl⟩
      · have hn0 : (0 : Int) < (n : Int) := by have := hs.1.1 rfl; omega
        clear hs
        go_wp2
        go_ret
        exact ⟨by rw [show true = decide (0 < n) by simp; omega]; rfl, _, rfl⟩
end Go.Proofs.YtkeeledkdoiglaaDoor.Wh
